/-
  Part 4 of what TopOneStepIsHalfAUnit rests on.
-/
import Derived.Test.YtbnmadpcdlnleaaGreatDoorTopOneStepIsHalfAUnitZ3
import Derived.Lib.Mul64
import Derived.Shelf.Spec.BitsCarry
namespace Go.Proofs.YtbnmadpcdlnleaaGreatDoor
open Go.IntKind (wrap)
open Go.RowKit
set_option linter.unusedVariables false
set_option linter.unusedSimpArgs false
set_option maxRecDepth 20000
def okO (bits:Int) (mn:Nat):List Oq->List Oq->Option (List Oq)
 | [],st=>some st
 | o::r,st=>if errO bits mn o st=0 then okO bits mn r (zXA o st) else none
theorem zJD {bits:Int} {mn:Nat}:∀ (l m:List Oq) (st:List Oq),okO bits mn (l++m) st=(okO bits mn l st).bind (okO bits mn m)
 | [],m,st=>rfl
 | o::l,m,st=>by
  simp only [List.cons_append,okO];split
  ·exact zJD l m _
  ·rfl
theorem jJi {bits:Int} {mn:Nat}:∀ (l m:List Oq) (i:Int) (st st':List Oq),okO bits mn l st=some st'->runO bits mn (l++m) i st=runO bits mn m (i+l.length) st'
 | [],m,i,st,st',h=>by
  simp only [okO,wQa] at h;subst h;simp
 | o::l,m,i,st,st',h=>by
  simp only [okO] at h;split at h
  ·rename_i he;simp only [List.cons_append,runO];rw [if_pos he,jJi l m _ _ _ h];congr 1;simp only [wQJ,Int.natCast_add,Int.natCast_one];omega
  ·cases h
theorem jXd {bits:Int} {mn:Nat} {st:List Oq} (h:st≠[]):errO bits mn popO st=0:=by
 have h1:popO.kind=3:=rfl;have h2:popO.fields=true:=by decide
 unfold errO;rw [if_neg (by rw [h1]; simp),if_neg (by rw [h2]; simp),if_pos h1,if_neg h]
theorem jKI {bits:Int} {mn:Nat}:∀ (n:Nat) (st:List Oq),n<=st.length->okO bits mn (List.replicate n popO) st=some (st.take (st.length-n))
 | 0,st,_=>by simp [okO]
 | n+1,st,h=>by
  have hne:st≠[]:=by intro e; subst e; simp at h
  have h1:popO.kind=3:=rfl;rw [wZF,okO,if_pos (jXd hne)];have e:zXA popO st=st.dropLast:=by unfold zXA; rw [if_neg (by rw [h1]; decide),if_pos h1]
  rw [e,jKI n _ (by simp; omega),wZT,List.take_take];congr 2;simp; omega
theorem zHf {bits:Int} {mn:Nat} {o:Oq} {st:List Oq} (h:errO bits mn o st=0):okO bits mn [o] st=some (zXA o st):=by
 simp only [okO]; rw [if_pos h]
theorem zJ7 {n c:Int} (h : -100<=c/\c<=100) : -200<=gOff n c/\gOff n c<=200:=by
 have b:=@zZa (wrap .i64 (Int.tdiv n 3)) 9 (by omega) (by omega);unfold gOff;split<;>omega
abbrev wZU:=@Decidable.not_not
theorem yQW {bits:Int} {mn:Nat} {r:Rw} {push:Bool} {c:Rc} {most:Int} {st:List Oq} (hm:1<=mn/\mn<=64) (hc:(-100<=c.a/\c.a<=100) /\ -100<=c.b/\c.b<=100) (hb:zQo bits=most) (h0:0<=most/\most<=65535) (hl:st.length<64) :
  errO bits mn (gOp r push mn c (ctxB st) most) st=0:=by
 have b1:=@zZa r.im mn (by omega) (by omega);have b2:=@zZa (wrap .i64 (Int.tdiv r.ma 4)) mn (by omega) (by omega);have b3:=@zZa (wrap .i64 (Int.tdiv r.ope 2)) 12 (by omega) (by omega);have b4:=@zZa (wrap .i64 (Int.tdiv r.mo 2)) 12 (by omega) (by omega);have o1:=@zJ7 r.x c.a hc.1;have o2:=@zJ7 r.y c.b hc.2;have o3:=@zJ7 r.mx c.a hc.1;have o4:=@zJ7 r.my c.b hc.2;have s1:=zYn (wrap .i64 (Int.tdiv r.op 2)) h0.1 h0.2;unfold errO;rw [hb];rw [if_neg (by simp [gOp]; cases push<;>simp)]
 rw [if_neg (by
  cases push<;>simp only [gOp,Oq.fields]<;>by_cases q:modS r.ma 4=0<;>simp [q]<;>omega)]
 rw [if_neg (by cases push<;>simp [gOp])]
 rw [if_neg (by
  cases push<;>simp only [gOp]<;>by_cases q:modS r.ma 4=0<;>simp [q]<;>omega)]
 rw [if_neg (by
  simp only [wZU,zWO,gOp]
  refine ⟨?_,?_,?_,?_⟩<;>split<;>omega)]
 rw [if_neg (by simp only [gOp]; split<;>omega)];rw [if_neg (by simp only [gOp]; split<;>omega)];rw [if_neg (by simp only [gOp]; split<;>omega)]
 rw [if_neg (by
  simp only [gOp];intro ⟨h1,h2⟩;rw [h2] at h1
  simp at h1)]
 rw [if_neg (by omega)]
theorem Scn.bits_max (s:Scn):zQo s.bits=s.most/\zVf s.bits=true:=by
 have:=s.most_in;unfold Scn.bits
 rcases this with h | h<;>rw [h]<;>decide
theorem Scn.run_okO (s:Scn) (k:Nat) (hk:k<=9):okO s.bits s.ims.length (s.run k).1 []=some (s.run k).2:=by
 induction k with
 | zero=>rfl
 | succ k ih=>
  have ih:=ih (by omega);have hl:=s.run_len k;have F:=s.c_facts;have li:=s.ims_len;have hm:0<=s.most/\s.most<=65535:=by rcases s.most_in with h | h<;>rw [h]<;>omega
  by_cases h:modS (rwAt s.rxs (k*11)).k 8=0/\0<(s.run k).2.length
  ·rw [Scn.run_pop h,zJD,ih];have hne:(s.run k).2≠[]:=by intro e; rw [e] at h; simp at h
   show okO _ _ [popO] _=_
   rw [zHf (jXd hne)];rfl
  ·obtain ⟨r1,r2⟩:=Scn.run_op h rfl;have he:=@yQW s.bits s.ims.length (rwAt s.rxs (k*11)) (decide (modS (rwAt s.rxs (k*11)).k 8<3)) s.c s.most (s.run k).2 (by omega) (by omega) s.bits_max.1 hm (by omega);have hkd:(gOp (rwAt s.rxs (k*11)) (decide (modS (rwAt s.rxs (k*11)).k 8<3)) s.ims.length s.c (ctxB (s.run k).2) s.most).kind=if modS (rwAt s.rxs (k*11)).k 8<3 then 2 else 1:=by simp [gOp]
   generalize gOp (rwAt s.rxs (k*11)) (decide (modS (rwAt s.rxs (k*11)).k 8<3)) s.ims.length s.c (ctxB (s.run k).2) s.most=o at *;by_cases h2:o.kind=2
   ·rw [r1 h2,zJD,ih]
    show okO _ _ [o] _=_
    rw [zHf he];unfold zXA;rw [if_pos h2]
   ·have h3:o.kind≠3:=by rw [hkd]; split<;>decide
    rw [r2 h2,zJD,ih]
    show okO _ _ [o] _=_
    rw [zHf he];unfold zXA;rw [if_neg h2,if_neg h3]
theorem Scn.ops_ok (s:Scn):okO s.bits s.ims.length s.ops []=some []:=by
 unfold Scn.ops;rw [zJD,s.run_okO _ (by omega)]
 show okO _ _ _ _=_
 rw [jKI _ _ (Nat.le_refl _),wZg];rfl
theorem Scn.ops_len (s:Scn):s.ops.length<=18:=by
 have:=s.run_len (min s.rn 9);unfold Scn.ops;simp; omega
theorem Scn.ops_run (s:Scn):runO s.bits s.ims.length s.ops 0 []=(0,0):=by
 have:=jJi s.ops [] 0 [] [] s.ops_ok;rw [wQW] at this;rw [this];simp [runO]
theorem Scn.frame_ok (s:Scn) {mn pn:Nat} (h1:mn<=64) (h2:pn<=4096):zYc s.bits s.c s.gtw s.gth s.ord mn pn=0:=by
 obtain ⟨c1,c2,c3⟩:=s.cnt;obtain ⟨f1,f2,f3,f4,f5,f6⟩:=s.facts;have CF:=s.c_facts;have he:Rc.empty s.c=false:=by rw [Rc.empty_iff]; omega
 refine jUk s.bits_max.2 he ?_ ((zWO _).2 (by omega)) ((zWO _).2 (by omega)) c1 ?_ h1 h2
 ·unfold Rc.area;rw [he,CF.1,CF.2.1];have:=wQx f3.2 f4.2 (by omega) (by omega);simp; omega
 ·have ht:=s.tiles_in;exact (jHD (l:=ints s.oxs) ht.1 (by omega)).1
theorem Scn.fine (s:Scn):∀ m∈s.ims,m.formed=true/\(m.w<=100/\m.h<=100)/\m.valid s.most=0/\∀ more,(zXT m more).valid s.most=0:=by
 have CF:=s.c_facts;have hq:1<=s.c.c-s.c.a/\s.c.c-s.c.a<=100/\1<=s.c.d-s.c.b/\s.c.d-s.c.b<=100:=by have:=s.facts; omega
 have hm:0<=s.most/\s.most<=65535:=by rcases s.most_in with h | h<;>rw [h]<;>omega
 have key:∀ m:Im,m.formed=true->m.w<=100/\m.h<=100->(∀ p∈m.pixels,p.fine s.most)->m.formed=true/\(m.w<=100/\m.h<=100)/\m.valid s.most=0/\∀ more,(zXT m more).valid s.most=0:=λm h1 h2 h3=>by
  refine ⟨h1,h2,(Im.valid_iff h1 _).2 λp hp=>(h3 p hp).1,λmore=>(Im.valid_iff (zVa h1 h2 more) _).2 λp hp=>?_⟩;rw [zHB h1 h2 more] at hp;exact (h3 p hp).1
 intro m hmem;unfold Scn.ims at hmem;split at hmem
 ·rw [wQj] at hmem;subst hmem;have F:=s.facts;have hf:zZg s.gw s.gh=true:=by
   have:=wQx F.2.2.1.2 F.2.2.2.1.2 (by omega) (by omega);simp [zZg]; omega
  refine key _ (zYr _ hf) ⟨by show s.gw<=100; omega,by show s.gh<=100; omega⟩ λp hp=>?_;change p∈(zQ3 s.gw s.gh ⟨s.most,0,0,s.most,s.most⟩).pixels at hp;rw [Im.pixels_of (zYr _ hf),Im.list,wQv] at hp;obtain ⟨k,_,rfl⟩:=hp;have e:(zQ3 s.gw s.gh ⟨s.most,0,0,s.most,s.most⟩).nth k=⟨s.most,0,0,s.most,s.most⟩:=by simp [Im.nth,Im.px,zQ3]
  change ((zQ3 s.gw s.gh ⟨s.most,0,0,s.most,s.most⟩).nth k).fine s.most;rw [e];exact ⟨by simp [Px.ok]; omega,by simp only; omega,by simp only; omega,by simp only; omega,by simp only; omega⟩
 ·simp only [Scn.pics,wQv] at hmem;obtain ⟨k,_,rfl⟩:=hmem;obtain ⟨gf,g1,g2,g3,g4⟩:=zUW (nAt s.pxs (k*5)) (nAt s.pxs (k*5+1)) (nAt s.pxs (k*5+2)) (nAt s.pxs (k*5+3)) (lAt s.pxs (k*5+4)) (cAt s.pxs (k*5+4)) s.c.a s.c.b s.c.c s.c.d s.most hq;exact key _ gf ⟨g2,g4⟩ λp hp=>zHC _ _ _ _ _ _ _ _ _ _ hm.1 hm.2 hq p hp
inductive Fo where
  | nil
  | draw (o:Oq) (r:Fo)
  | grp (o:Oq) (k r:Fo)
def Fo.flat:Fo->List Oq
 | .nil=>[]
 | .draw o r=>o::r.flat
 | .grp o k r=>o::(k.flat++popO::r.flat)
def Fo.ok:Fo->Prop
 | .nil=>True
 | .draw o r=>o.kind=1/\r.ok
 | .grp o k r=>o.kind=2/\k.ok/\r.ok
def Fo.size:Fo->Nat
 | .nil=>0
 | .draw _ r=>r.size+1
 | .grp _ k r=>k.size+r.size+2
theorem Fo.flat_len:∀ f:Fo,f.flat.length=f.size
 | .nil=>rfl
 | .draw o r=>by simp [Fo.flat,Fo.size,r.flat_len]
 | .grp o k r=>by simp [Fo.flat,Fo.size,k.flat_len,r.flat_len]; omega
def unfl:Fo->List Fo->List Oq
 | f,[]=>f.flat
 | f,g::fs=>f.flat++popO::unfl g fs
theorem jV8 (o:Oq) (f:Fo) (fs:List Fo):unfl (.draw o f) fs=o::unfl f fs:=by
 cases fs<;>simp [unfl,Fo.flat]
theorem jUR (o:Oq) (f g:Fo) (fs:List Fo):unfl (.grp o f g) fs=o::(f.flat++popO::unfl g fs):=by
 cases fs<;>simp [unfl,Fo.flat]
theorem zJc {bits:Int} {mn:Nat} {o:Oq} {st:List Oq} (h:errO bits mn o st=0):o.kind=1\/o.kind=2\/(o=popO/\st≠[]):=by
 unfold errO at h;split at h
 ·cases h
 ·rename_i h1;have h1:=wZU.1 h1;split at h
  ·cases h
  ·rename_i h2;split at h
   ·rename_i h3;split at h
    ·cases h
    ·rename_i h4;refine .inr (.inr ⟨?_,h4⟩);have h2:o.fields=true:=by simpa using h2
     unfold Oq.fields at h2;rw [if_pos h3] at h2;simpa using h2
   ·rcases h1 with h1 | h1 | h1
    ·exact .inl h1
    ·exact .inr (.inl h1)
    ·exact absurd h1 (by assumption)
abbrev wXT:=@List.length_dropLast
theorem yQY {bits:Int} {mn:Nat}:∀ (l st:List Oq),okO bits mn l st=some []->∃ f fs,fs.length=st.length/\l=unfl f fs/\f.ok/\∀ g∈fs,g.ok
 | [],st,h=>by
  simp only [okO,wQa] at h;subst h;exact ⟨.nil,[],rfl,rfl,trivial,by simp⟩
 | o::l,st,h=>by
  simp only [okO] at h;split at h
  ·rename_i he;obtain ⟨f,fs,h1,h2,h3,h4⟩:=yQY l _ h
   rcases zJc he with hk | hk | ⟨rfl,hne⟩
   ·have e:zXA o st=st:=by unfold zXA; rw [if_neg (by omega),if_neg (by omega)]
    rw [e] at h1;exact ⟨.draw o f,fs,h1,by rw [h2,jV8],⟨hk,h3⟩,h4⟩
   ·have e:zXA o st=st++[o]:=by unfold zXA; rw [if_pos hk]
    rw [e] at h1
    cases fs with
    | nil=>simp at h1
    | cons g fs=>
     refine ⟨.grp o f g,fs,by simpa using h1,by rw [h2,jUR]; rfl,⟨hk,h3,h4 g List.mem_cons_self⟩,λq hq=>h4 q (List.mem_cons_of_mem _ hq)⟩
   ·have e:zXA popO st=st.dropLast:=by unfold zXA; rw [if_neg (by decide),if_pos (by decide)]
    rw [e,wXT] at h1;have:=wZ8.2 hne;refine ⟨.nil,f::fs,by simp; omega,by rw [h2]; rfl,trivial,λq hq=>?_⟩
    rcases wQz.1 hq with rfl | hq
    ·exact h3
    ·exact h4 q hq
  ·cases h
theorem jKX {bits:Int} {mn:Nat} {l:List Oq} (h:okO bits mn l []=some []):∃ f:Fo,f.ok/\l=f.flat:=by
 obtain ⟨f,fs,h1,h2,h3,h4⟩:=yQY l [] h
 cases fs with
 | nil=>exact ⟨f,h3,h2⟩
 | cons g fs=>simp at h1
theorem jQY {bits:Int} {mn:Nat}:∀ (l:List Oq) (i:Int) (st:List Oq),(runO bits mn l i st).1=0->okO bits mn l st=some []
 | [],i,st,h=>by
  simp only [runO] at h;split at h
  ·rename_i e; subst e; rfl
  ·cases h
 | o::l,i,st,h=>by
  simp only [runO] at h;simp only [okO];split at h
  ·rename_i he;rw [if_pos he];exact jQY l _ _ h
  ·rename_i he; exact absurd h he
theorem zYP (s:Scr):(⟨s.bits,s.c,s.tw,s.th,ints (is s.ord),zQI (ims s.ims),zQl (ops s.ops)⟩:Scr)=s:=zJy s
def zZl (op:Int):Bool:=decide (op=3\/op=4\/op=5\/op=9\/op=10\/op=12)
def farB (v:Int):Bool:=decide (v < -1099511627776\/v>1099511627776)
def zXd (s:Scr) (i x y:Int):Rc:=
 if 0<=i then match s.ims[i.toNat]? with
  | some m=>if farB x || farB y || farB m.w || farB m.h then Rc.zero else Rc.inter ⟨x,y,x+m.w,y+m.h⟩ s.c
  | none=>Rc.zero
 else Rc.zero
def imgR (s:Scr) (o:Oq):Rc:=if o.kind=1 then zXd s o.image o.x o.y else Rc.zero
def jQj (s:Scr) (o:Oq):Rc:=if o.mask=0 then s.c.inter s.c else if o.mask<0 then Rc.zero else zXd s (o.mask-1) o.mx o.my
def boxF (s:Scr) (o:Oq) (src:Rc):Rc:=if zZl o.oper=false then s.c else if o.opac=0 then Rc.zero else src.inter (jQj s o)
theorem zG7 {s:Scr} {i:Int} (x y:Int) (h:i<0\/(s.ims.length:Int)<=i):zXd s i x y=Rc.zero:=by
 unfold zXd;split
 ·rw [wQO (by omega)]
 ·rfl
theorem jQU {s:Scr} {i:Int} (x y:Int) (h:0<=i) (h2:i.toNat<s.ims.length):zXd s i x y=if farB x || farB y || farB s.ims[i.toNat].w || farB s.ims[i.toNat].h then Rc.zero else Rc.inter ⟨x,y,x+s.ims[i.toNat].w,y+s.ims[i.toNat].h⟩ s.c:=by
 unfold zXd;rw [if_pos h,List.getElem?_eq_getElem h2]
abbrev Bst:=List Rc × List Int × List Rc
def topB (hs:List Rc) (b:Rc):List Rc:=hs.set (hs.length-1) (zZN [(hs[hs.length-1]?).getD Rc.zero,b])
def zU9 (s:Scr) (i:Nat) (o:Oq) (z:Bst):Bst:=
 if o.kind=1 then (z.1.set i (boxF s o (imgR s o)),z.2.1,z.2.2)
 else
  let p:=(z.2.1[z.2.1.length-1]?).getD 0
  let b:=boxF s ((s.ops[p.toNat]?).getD popO) ((z.2.2[z.2.2.length-1]?).getD Rc.zero)
  ((z.1.set i b).set p.toNat b,z.2.1.dropLast,z.2.2.dropLast)
def zU8 (s:Scr) (i:Nat) (o:Oq) (z:Bst):Bst:=
 if o.kind=2 then (z.1,z.2.1++[(i:Int)],z.2.2++[Rc.zero])
 else
  let y:=zU9 s i o z
  (y.1,y.2.1,topB y.2.2 ((y.1[i]?).getD Rc.zero))
def runB (s:Scr):Nat->Bst
 | 0=>(List.replicate s.ops.length Rc.zero,[],[Rc.zero])
 | k+1=>zU8 s k ((s.ops[k]?).getD popO) (runB s k)
def zXm (s:Scr):List Rc × Int:=if s.run.1=0 then ((runB s s.ops.length).1,0) else ([],s.run.1)
theorem zY8 {s:Scr} (h:s.run.1=0):s.frame=0/\okO s.bits s.ims.length s.ops []=some []:=by
 unfold Scr.run opsE at h;split at h
 ·rename_i h1; exact ⟨h1,jQY _ _ _ h⟩
 ·rename_i h1; exact absurd h h1
theorem jYC {s:Scr} (h:s.frame=0):s.ims.length<=64/\s.ops.length<=4096:=by
 unfold Scr.frame zYc at h;split at h
 ·cases h
 ·split at h
  ·cases h
  ·split at h
   ·cases h
   ·split at h
    ·cases h
    ·split at h
     ·cases h
     ·omega
theorem jGf {bits:Int} {mn:Nat} {l:List Oq} (h:okO bits mn l []=some []) (k:Nat):∃ st,okO bits mn (l.take k) []=some st/\okO bits mn (l.drop k) st=some []:=by
 have e:=wZy k l;rw [<- e,zJD] at h
 cases hk:okO bits mn (l.take k) [] with
 | none=>rw [hk] at h; cases h
 | some st=>rw [hk] at h; exact ⟨st,rfl,h⟩
theorem jKJ {bits:Int} {mn:Nat} {l st:List Oq} {k:Nat} (h1:okO bits mn (l.take k) []=some st) (h2:okO bits mn (l.drop k) st=some []) (hk:k<l.length):errO bits mn l[k] st=0/\okO bits mn (l.take (k+1)) []=some (zXA l[k] st):=by
 rw [wZS hk,okO] at h2;split at h2
 ·rename_i he;refine ⟨he,?_⟩;rw [wZf,List.getElem?_eq_getElem hk,zJD,h1]
  show okO _ _ [l[k]] st=_
  rw [zHf he]
 ·cases h2
theorem jQH {s:Scr} (h:s.run.1=0):∀ k,k<=s.ops.length->∃ st:List Oq,okO s.bits s.ims.length (s.ops.take k) []=some st/\okO s.bits s.ims.length (s.ops.drop k) st=some [] /\
  (runB s k).1.length=s.ops.length/\(runB s k).2.1.length=st.length/\(runB s k).2.2.length=st.length+1/\st.length<=k/\∀ p∈(runB s k).2.1,0<=p/\p<k
 | 0,_=>⟨[],rfl,by simpa using (zY8 h).2,by simp [runB],rfl,rfl,Nat.le_refl _,by simp [runB]⟩
 | k+1,hk=>by
  obtain ⟨st,h1,h2,h3,h4,h5,h6,h7⟩:=jQH h k (by omega);have hlt:k<s.ops.length:=by omega
  obtain ⟨he,h8⟩:=jKJ h1 h2 hlt;obtain ⟨st',h1',h2'⟩:=jGf (zY8 h).2 (k+1);rw [h8] at h1';injection h1' with h1'
  subst h1';have hr:runB s (k+1)=zU8 s k s.ops[k] (runB s k):=by
   rw [runB,List.getElem?_eq_getElem hlt]; rfl
  rw [hr];refine ⟨_,h8,h2',?_⟩
  rcases zJc he with hk1 | hk1 | ⟨hk1,hne⟩
  ·have e:zXA s.ops[k] st=st:=by unfold zXA; rw [if_neg (by omega),if_neg (by omega)]
   rw [e];unfold zU8 zU9;rw [if_neg (by omega),if_pos hk1];refine ⟨by simp [h3],h4,by simp [topB,h5],by omega,λp hp=>?_⟩;have:=h7 p hp;omega
  ·have e:zXA s.ops[k] st=st++[s.ops[k]]:=by unfold zXA; rw [if_pos hk1]
   rw [e];unfold zU8;rw [if_pos hk1];refine ⟨h3,by simp [h4],by simp [h5],by simp; omega,λp hp=>?_⟩
   rcases List.mem_append.1 hp with hp | hp
   ·have:=h7 p hp; omega
   ·rw [wQj] at hp; omega
  ·have hk2:s.ops[k].kind=3:=by rw [hk1]; rfl
   have e:zXA s.ops[k] st=st.dropLast:=by unfold zXA; rw [if_neg (by omega),if_pos hk2]
   have:=wZ8.2 hne;rw [e];unfold zU8 zU9;rw [if_neg (by omega),if_neg (by omega)];refine ⟨by simp [h3],by simp [h4],by simp [topB,h5]; omega,by simp; omega,λp hp=>?_⟩;have:=h7 p (List.dropLast_subset _ hp);omega
structure Ac where
  a:Int
  b:Int
  c:Int
  al:Int
  own:Int
  f:Int
deriving DecidableEq
def Ac.zero:Ac:=⟨0,0,0,0,0,0⟩
def Px.nn (p:Px):Prop:=0<=p.a/\0<=p.b/\0<=p.c
def Ac.nn (p:Ac):Prop:=0<=p.a/\0<=p.b/\0<=p.c/\0<=p.own
def zZ1 (m:Int):Bool:=decide (m=255\/m=65535)
def Ac.ok (x:Ac) (k:Px) (m:Int):Bool:=decide (x.a<=x.al/\x.b<=x.al/\x.c<=x.al)&&(zZ1 m&&(decide (x.own<=x.al/\x.own<=x.f/\x.al<=m/\x.f<=m)&&(k.ok m&&decide (k.f=k.al))))
def isNm (n:Int):Bool:=decide (1<=n/\n<13)
def zZ4 (kno:Bool) (op mode m:Int) (p:Px) (x:Ac) (k:Px):Bool:=isNm op&&(isNm mode&&(x.ok k m&&(p.ok m && !(kno&&decide (op≠4)))))
def accS (kno:Bool) (op mode m:Int) (p:Px) (x:Ac) (k:Px):Ac:=
 if kno then ⟨knoC mode m p.a p.al p.f x.a k.a k.al,knoC mode m p.b p.al p.f x.b k.b k.al,knoC mode m p.c p.al p.f x.c k.c k.al,knoA m p.al p.f x.al k.al,knoA m p.al p.f x.own 0,zYz op p.f x.f m⟩
 else ⟨colS op mode m p.a p.al x.a x.al,colS op mode m p.b p.al x.b x.al,colS op mode m p.c p.al x.c x.al,zXF op p.al x.al m,zXF op p.al x.own m,zYz op p.f x.f m⟩
def remS (m c own b:Int):Int:=if m*c>(m-own)*b then min (zZb (m*c-(m-own)*b) m) own else 0
def zZ0 (x:Ac) (k:Px) (m:Int):Px:=⟨remS m x.a x.own k.a,remS m x.b x.own k.b,remS m x.c x.own k.c,x.own,x.f⟩
def zXg (p:Px) (k m:Int):Px:=⟨zZb (p.a*k) m,zZb (p.b*k) m,zZb (p.c*k) m,zZb (p.al*k) m,zZb (p.f*k) m⟩
def zZI (iso kno:Bool) (x:Ac) (k:Px):Ac × Px:=
 let b:Px:=if iso then .zero else if kno then k else ⟨x.a,x.b,x.c,x.al,x.al⟩
 (⟨b.a,b.b,b.c,b.al,0,0⟩,b)
abbrev wQ2:=@of_decide_eq_true
theorem zQ4 {m:Int} (h:zZ1 m=true):0<m/\m<=65535:=by
 have:=wQ2 h;omega
theorem Px.ok_iff {p:Px} {m:Int}:p.ok m=true↔p.a<=p.al/\p.b<=p.al/\p.c<=p.al/\p.al<=p.f/\p.f<=m:=by
 simp [Px.ok]
theorem Ac.ok_iff {x:Ac} {k:Px} {m:Int}:x.ok k m=true↔(x.a<=x.al/\x.b<=x.al/\x.c<=x.al)/\zZ1 m=true/\(x.own<=x.al/\x.own<=x.f/\x.al<=m/\x.f<=m)/\k.ok m=true/\k.f=k.al:=by
 simp [Ac.ok]
theorem jZe {mode d b:Int} (h2:0<=d) (h3:d<=b):(zQi mode 0 0 d b).p=0/\(zQi mode 0 0 d b).q=0:=by
 have hh:zKs d b 0 0=0:=by unfold zKs; split<;>simp
 have hh2:zKs 0 0 d b=0:=by unfold zKs; simp
 have hs:(zJx 0 0 d b).p=0/\(zJx 0 0 d b).q=0:=by
  unfold zJx;split
  ·exact ⟨rfl,rfl⟩
  ·simp
 unfold zQi;rw [hh,hh2];by_cases c10:mode=10
 ·subst c10; simpa using hs
 have key:∀ (c:Prop) [Decidable c] (x y:Ex),(x.p=0/\x.q=0)->(¬ c->y.p=0/\y.q=0)->(if c then x else y).p=0/\(if c then x else y).q=0:=λc _ x y hx hy=>by
  split
  ·exact hx
  ·exact hy (by assumption)
 repeat' (first | (refine key _ _ _ ?_ λhc=>?_) | (simp [zZj]; done))
theorem zWN {op:Int} (h:zZl op=true):op=3\/op=4\/op=5\/op=9\/op=10\/op=12:=wQ2 h
theorem zUY {op b m:Int} (h:zZl op=true):facB op 0 b m=m:=by
 rcases zWN h with rfl | rfl | rfl | rfl | rfl | rfl<;>simp [facB]
abbrev wQ9:=@Int.mul_zero
theorem jXe {op mode m d b:Int} (hm:0<m) (h:zZl op=true) (h2:0<=d) (h3:d<=b):colS op mode m 0 0 d b=d:=by
 have ⟨e1,e2⟩:=jZe (mode:=mode) h2 h3;have hd:=(zZk (mode:=mode) (s:=0) (a:=0) (Int.le_refl 0) (Int.le_refl 0) h2 h3).ok.d;unfold colS;refine Ex.half_whole ?_ ?_ ?_
 ·exact wZi (wZi hm hm) hd
 ·simp only [valS,e2,wQ9]
 ·simp only [valS,e1,zUY h];grind
theorem jZg {op b m:Int} (hm:0<m) (h:zZl op=true):zXF op 0 b m=b:=by
 unfold zXF;rw [zUY h,wQ9,Int.zero_add,zYb hm]
theorem shape_zero {op g m:Int} (hm:0<m) (h:zZl op=true):zYz op 0 g m=g:=by
 have e:m*0+(m-0)*g=m*g:=by grind
 unfold zYz
 rcases zWN h with rfl | rfl | rfl | rfl | rfl | rfl<;>simp [zYb hm]
theorem zHl {mode m c d b:Int} (hm:0<m) (h2:0<=d) (h3:d<=b):knoC mode m 0 0 0 c d b=c:=by
 have ⟨e1,e2⟩:=jZe (mode:=mode) h2 h3;have hd:=(zZk (mode:=mode) (s:=0) (a:=0) (Int.le_refl 0) (Int.le_refl 0) h2 h3).ok.d;unfold knoC;refine Ex.half_whole ?_ ?_ ?_
 ·exact wZi hm hd
 ·exact e2
 ·simp only [knoX,e1];grind
theorem jYi {m acc b:Int} (hm:0<m):knoA m 0 0 acc b=acc:=by
 unfold knoA;have e:(m-0)*acc+(0-0)*b+m*0=m*acc:=by grind
 rw [e,zYb hm]
theorem jUN {kno:Bool} {op mode m:Int} {x:Ac} {k:Px} (h:zZl op=true) (hx:x.nn) (hk:k.nn) (ho:zZ4 kno op mode m .zero x k=true):accS kno op mode m .zero x k=x:=by
 simp only [zZ4,wQf] at ho;obtain ⟨_,_,h1,_,_⟩:=ho;obtain ⟨⟨q1,q2,q3⟩,hf,⟨q4,q5,q6,q7⟩,hk2,hk3⟩:=Ac.ok_iff.1 h1;obtain ⟨r1,r2,r3,r4,r5⟩:=Px.ok_iff.1 hk2;have hm:=(zQ4 hf).1;obtain ⟨n1,n2,n3,n4⟩:=hx;obtain ⟨k1,k2,k3⟩:=hk;obtain ⟨a,b,c,al,own,f⟩:=x;simp only at *;unfold accS;split
 ·simp only [Px.zero];rw [zHl hm k1 r1,zHl hm k2 r2,zHl hm k3 r3,jYi hm,jYi hm,shape_zero hm h]
 ·simp only [Px.zero];rw [jXe hm h n1 q1,jXe hm h n2 q2,jXe hm h n3 q3,jZg hm h,jZg hm h,shape_zero hm h]
structure LvOk (m:Int) (iso kno:Bool) (x:Ac) (k:Px):Prop where
  ok:x.ok k m=true
  nn:x.nn
  kn:k.nn
  own:iso=true->kno=false->x.own=x.al
theorem jHn {m:Int} {iso kno:Bool} {x:Ac} {k p:Px} {op mode:Int} (h:LvOk m iso kno x k) (hp:p.ok m=true) (hn:p.nn) (h1:isNm op=true) (h2:isNm mode=true) (hop:op=4\/(iso=true/\kno=false)) :
  zZ4 kno op mode m p x k=true/\LvOk m iso kno (accS kno op mode m p x k) k:=by
 obtain ⟨ok,⟨n1,n2,n3,n4⟩,kn,own⟩:=h;obtain ⟨⟨q1,q2,q3⟩,hf,⟨q4,q5,q6,q7⟩,hk2,hk3⟩:=Ac.ok_iff.1 ok;obtain ⟨r1,r2,r3,r4,r5⟩:=Px.ok_iff.1 hk2;obtain ⟨p1,p2,p3,p4,p5⟩:=Px.ok_iff.1 hp;obtain ⟨pn1,pn2,pn3⟩:=hn;have kn':=kn;obtain ⟨k1,k2,k3⟩:=kn';have hm:=(zQ4 hf).1;refine ⟨?_,?_⟩
 ·have:(!(kno&&decide (op≠4)))=true:=by
   rcases hop with rfl | ⟨_,rfl⟩<;>simp
  unfold zZ4;rw [h1,h2,ok,hp,this]; rfl
 obtain ⟨xa,xb,xc,al,oo,f⟩:=x;obtain ⟨pa,pb,pc,pl,pf⟩:=p;simp only at *
 cases kno with
 | true=>
  have hop:op=4:=hop.elim id λh=>absurd h.2 (by decide);subst hop;have c1:=jZZ (mode:=mode) hm pn1 p1 p4 p5 k1 r1 (show k.al<=m by omega) n1 q1;have c2:=jZZ (mode:=mode) hm pn2 p2 p4 p5 k2 r2 (show k.al<=m by omega) n2 q2;have c3:=jZZ (mode:=mode) hm pn3 p3 p4 p5 k3 r3 (show k.al<=m by omega) n3 q3;have a1:=jZ0 (acc:=al) (b:=k.al) hm (show 0<=pl by omega) p4 p5 (by omega) q6 (by omega) (by omega);have a2:=jZ0 (acc:=oo) (b:=0) hm (show 0<=pl by omega) p4 p5 n4 (by omega) (by omega) (by omega);have sh:=zX1 (op:=4) (a:=pl) (f:=pf) (b:=oo) (g:=f) hm (by omega) p4 p5 n4 q5 q7;have o1:knoA m pl pf oo 0<=knoA m pl pf al k.al:=by
   unfold knoA;apply zZ8 hm;have:=zQc (x:=m-pf) (y:=oo) (A:=m-pf) (B:=al) (by omega) (Int.le_refl _) n4 q4;have:=Int.mul_nonneg (show 0<=pf-pl by omega) (show 0<=k.al by omega);omega
  have o2:knoA m pl pf oo 0<=zXF 4 pl oo m:=by
   unfold knoA zXF;apply zZ8 hm;simp [facA,facB];have:=Int.mul_le_mul_of_nonneg_right (show m-pf<=m-pl by omega) n4;omega
  simp only [accS,if_true];exact ⟨Ac.ok_iff.2 ⟨⟨by simp only; omega,by simp only; omega,by simp only; omega⟩,hf,⟨by simp only; omega,by simp only; omega,by simp only; omega,by simp only; omega⟩,hk2,hk3⟩,⟨by simp only; omega,by simp only; omega,by simp only; omega,by simp only; omega⟩,kn,λ_ h=>by cases h⟩
 | false=>
  have c1:=jXg (op:=op) (mode:=mode) hm pn1 p1 (show pl<=m by omega) n1 q1 q6;have c2:=jXg (op:=op) (mode:=mode) hm pn2 p2 (show pl<=m by omega) n2 q2 q6;have c3:=jXg (op:=op) (mode:=mode) hm pn3 p3 (show pl<=m by omega) n3 q3 q6;have top:=zX1 (op:=op) (a:=pl) (f:=pf) (b:=al) (g:=m) hm (by omega) p4 p5 (by omega) q6 (Int.le_refl _);have sh:=zX1 (op:=op) (a:=pl) (f:=pf) (b:=oo) (g:=f) hm (by omega) p4 p5 n4 q5 q7;have z:=zHY (op:=op) (a:=pl) (b:=oo) hm (by omega) (by omega) n4 (by omega);have o1:zXF op pl oo m<=zXF op pl al m:=by
   rcases hop with rfl | ⟨hi,_⟩
   ·unfold zXF;apply zZ8 hm;simp [facA,facB];exact Int.mul_le_mul_of_nonneg_left q4 (by omega)
   ·rw [own hi rfl]; exact Int.le_refl _
  simp only [accS];exact ⟨Ac.ok_iff.2 ⟨⟨by simp; omega,by simp; omega,by simp; omega⟩,hf,⟨by simp; omega,by simp; omega,by simp; omega,by simp; omega⟩,hk2,hk3⟩,⟨by simp; omega,by simp; omega,by simp; omega,by simp; omega⟩,kn,λhi hk=>by simp [own hi hk]⟩
theorem jJw {m c own b:Int} (hm:0<m) (h:0<=own):0<=remS m c own b/\remS m c own b<=own:=by
 unfold remS;split
 ·have:=zYH (n:=m*c-(m-own)*b) hm (by omega);omega
 ·omega
theorem zGW {m:Int} {iso kno:Bool} {x:Ac} {k:Px} (h:LvOk m iso kno x k):(zZ0 x k m).ok m=true/\(zZ0 x k m).nn:=by
 obtain ⟨ok,⟨n1,n2,n3,n4⟩,kn,own⟩:=h;obtain ⟨⟨q1,q2,q3⟩,hf,⟨q4,q5,q6,q7⟩,hk2,hk3⟩:=Ac.ok_iff.1 ok;have hm:=(zQ4 hf).1;have a:=jJw (c:=x.a) (b:=k.a) hm n4;have b:=jJw (c:=x.b) (b:=k.b) hm n4;have c:=jJw (c:=x.c) (b:=k.c) hm n4;exact ⟨Px.ok_iff.2 ⟨a.2,b.2,c.2,q5,q7⟩,a.1,b.1,c.1⟩
theorem jZt {m k:Int} {p:Px} (hm:0<m) (h:p.ok m=true) (hn:p.nn) (h0:0<=k) (h1:k<=m):(zXg p k m).ok m=true/\(zXg p k m).nn:=by
 obtain ⟨p1,p2,p3,p4,p5⟩:=Px.ok_iff.1 h;obtain ⟨n1,n2,n3⟩:=hn;have mo:∀ {u v:Int},u<=v->zZb (u*k) m<=zZb (v*k) m:=λh=>zZ8 hm (Int.mul_le_mul_of_nonneg_right h h0);have nn:∀ {u:Int},0<=u->0<=zZb (u*k) m:=λh=>zYH hm (Int.mul_nonneg h h0);have le:zZb (p.f*k) m<=m:=by
  refine wZH (zXk hm (k:=k) ?_) h1;exact Int.mul_le_mul_of_nonneg_right p5 h0
 exact ⟨Px.ok_iff.2 ⟨mo p1,mo p2,mo p3,mo p4,le⟩,nn n1,nn n2,nn n3⟩
theorem zWT {m:Int} (hm:0<m):zZb 0 m=0:=by
 have:=zYb (c:=0) hm;rwa [wQ9] at this
theorem jQB {m k:Int} (hm:0<m):zXg .zero k m=.zero:=by
 simp [zXg,Px.zero,zWT hm]
theorem zWA {m:Int} {p:Px} (hm:0<m):zXg p 0 m=.zero:=by
 simp [zXg,Px.zero,zWT hm]
theorem zKb {m:Int} (hm:0<=m):Px.ok .zero m=true/\Px.zero.nn:=⟨Px.ok_iff.2 ⟨by decide,by decide,by decide,by decide,hm⟩,by decide,by decide,by decide⟩
theorem jGP {m:Int} {iso kno iso' kno':Bool} {x:Ac} {k:Px} (h:LvOk m iso kno x k):LvOk m iso' kno' (zZI iso' kno x k).1 (zZI iso' kno x k).2:=by
 obtain ⟨ok,⟨n1,n2,n3,n4⟩,kn,own⟩:=h;obtain ⟨⟨q1,q2,q3⟩,hf,⟨q4,q5,q6,q7⟩,hk2,hk3⟩:=Ac.ok_iff.1 ok;obtain ⟨r1,r2,r3,r4,r5⟩:=Px.ok_iff.1 hk2;obtain ⟨k1,k2,k3⟩:=kn;have hm:=(zQ4 hf).1;unfold zZI
 cases iso' with
 | true=>
  simp only [if_true];exact ⟨Ac.ok_iff.2 ⟨⟨by decide,by decide,by decide⟩,hf,⟨by decide,by decide,by simp [Px.zero]; omega,by simp only; omega⟩,(zKb (by omega)).1,rfl⟩,⟨by decide,by decide,by decide,by decide⟩,(zKb (m:=m) (by omega)).2,λ_ _=>rfl⟩
 | false=>
  cases kno with
  | true=>
   simp only [if_true];exact ⟨Ac.ok_iff.2 ⟨⟨by simp; omega,by simp; omega,by simp; omega⟩,hf,⟨by simp; omega,by simp,by simp; omega,by simp; omega⟩,by simpa using hk2,by simpa using hk3⟩,⟨by simpa using k1,by simpa using k2,by simpa using k3,Int.le_refl 0⟩,by simpa using ⟨k1,k2,k3⟩,λh=>by cases h⟩
  | false=>
   simp only;exact ⟨Ac.ok_iff.2 ⟨⟨by simp; omega,by simp; omega,by simp; omega⟩,hf,⟨by simp; omega,by simp,by simp; omega,by simp; omega⟩,Px.ok_iff.2 ⟨by simp; omega,by simp; omega,by simp; omega,by simp,by simp; omega⟩,by simp⟩,⟨by simpa using n1,by simpa using n2,by simpa using n3,Int.le_refl 0⟩,by simpa using ⟨n1,n2,n3⟩,λh=>by cases h⟩
theorem jXT {m:Int} {iso kno:Bool} {x:Ac} {k:Px}:zZ0 (zZI iso kno x k).1 (zZI iso kno x k).2 m=.zero:=by
 have e:∀ c,remS m c 0 c=0:=λc=>by unfold remS; rw [if_neg (by simp)]
 unfold zZI zZ0;simp only [e];rfl
def hiW (n:Int):Int:=n / 18446744073709551616
def loW (n:Int):Int:=n%18446744073709551616
def wV (h l:Int):Int:=h*18446744073709551616+l
theorem zYh (n:Int):wV (hiW n) (loW n)=n:=by unfold wV hiW loW; omega
theorem zV0 (n:Int):wV 0 n=n:=by unfold wV; omega
theorem zYu {n:Int} (h0:0<=n) (h1:n<18446744073709551616):hiW n=0:=by unfold hiW; omega
theorem zX8 {n:Int} (h0:0<=n) (h1:n<18446744073709551616):loW n=n:=by unfold loW; omega
def cmpI (a b:Int):Int:=if a=b then 0 else if a<b then -1 else 1
def addW (a b:Int):Int:=if a+b<340282366920938463463374607431768211456 then a+b else 0
def addK (a b:Int):Bool:=decide (a+b<340282366920938463463374607431768211456)
def subW (a b:Int):Int:=if a<b then 0 else a-b
def subK (a b:Int):Bool:=decide (b<=a)
def jJj (q r n:Int):Int:=if 18446744073709551616<=n then -1 else cmpI (q*q*r) (n*n)
theorem yQa {a b:Int}:0<=cmpI a b↔b<=a:=by unfold cmpI; grind
abbrev wZa:=@BitVec.toNat_ofNat
abbrev wXU:=@BitVec.toNat_and
theorem yQi {n:Int} (h0:0<=n) (h1:n<18446744073709551616):((BitVec.ofInt 64 n &&& BitVec.ofInt 64 1).toNat:Int)=n%2:=by
 obtain ⟨k,rfl⟩:=wQT h0;have hk:k<18446744073709551616:=by omega
 have e1:BitVec.ofInt 64 (k:Int)=BitVec.ofNat 64 k:=by simp
 have e2:BitVec.ofInt 64 1=BitVec.ofNat 64 1:=by decide
 rw [e1,e2,wXU,wZa,wZa,wQX hk];have:k &&& 1=k%2:=Nat.and_one_is_mod k;rw [show 1%2 ^ 64=1 from rfl,this];omega
abbrev wYl:=@Nat.and_two_pow_sub_one_eq_mod
theorem zW6 {n:Int} (h0:0<=n) (h1:n<18446744073709551616):((BitVec.ofInt 64 n &&& BitVec.ofInt 64 4294967295).toNat:Int)=n%4294967296:=by
 obtain ⟨k,rfl⟩:=wQT h0;have hk:k<18446744073709551616:=by omega
 have e1:BitVec.ofInt 64 (k:Int)=BitVec.ofNat 64 k:=by simp
 have e2:BitVec.ofInt 64 4294967295=BitVec.ofNat 64 4294967295:=by decide
 rw [e1,e2,wXU,wZa,wZa,wQX hk];have:k &&& 4294967295=k%4294967296:=wYl k 32;rw [show 4294967295%2 ^ 64=4294967295 from rfl,this];omega
def runE:List Oq->Nat->List Int->List Int->List Int × Int
 | [],_,out,op=>if op=[] then (out,0) else ([],18)
 | o::l,i,out,op=>
  if o.kind=1 then runE l (i+1) (out.set i i) op
  else if o.kind=2 then runE l (i+1) (out.set i i) (op++[(i:Int)])
  else if o.kind=3 then (if op=[] then ([],18) else runE l (i+1) ((out.set i i).set ((op[op.length-1]?).getD 0).toNat i) op.dropLast)
  else ([],9)
def zZy (l:List Oq):List Int × Int:=runE l 0 (List.replicate l.length 0) []
def endN:Nat->Fo->Nat->Nat
 | _,.nil,p=>p
 | n,.draw _ r,p=>if p=n then n else endN (n+1) r p
 | n,.grp _ k r,p=>if p=n\/p=n+k.size+1 then n+k.size+1 else if p<=n+k.size then endN (n+1) k p else endN (n+k.size+2) r p
def endF (n:Nat) (f:Fo):List Int:=(List.range f.size).map λj=>((endN n f (n+j):Nat):Int)
theorem zJu (n:Nat) (f:Fo):(endF n f).length=f.size:=by simp [endF]
theorem jUs (n:Nat) (o:Oq) (r:Fo):endF n (.draw o r)=(n:Int)::endF (n+1) r:=by
 unfold endF;rw [Fo.size,List.range_succ_eq_map,wQg,wQ5];refine congr (congrArg List.cons (by simp [endN])) (List.map_congr_left λj _=>?_)
 show ((endN n (.draw o r) (n+(j+1)):Nat):Int)=_
 rw [endN,if_neg (by omega),show n+(j+1)=n+1+j by omega]
abbrev wYB:=@List.getElem_append_left
abbrev wYm:=@List.getElem_append_right
theorem jGG (n:Nat) (o:Oq) (k r:Fo):endF n (.grp o k r)=((n+k.size+1:Nat):Int)::(endF (n+1) k++((n+k.size+1:Nat):Int)::endF (n+k.size+2) r):=by
 refine wQ1 (by simp [zJu,Fo.size]; omega) λj h1 h2=>?_;have hj:j<k.size+r.size+2:=by simpa [endF,Fo.size] using h1
 have e:(endF n (.grp o k r))[j]=((endN n (.grp o k r) (n+j):Nat):Int):=by simp [endF]
 rw [e,endN]
 cases j with
 | zero=>simp
 | succ j=>
  rw [wZt];by_cases c1:j<k.size
  ·rw [wYB (by rw [zJu]; exact c1),if_neg (by omega),if_pos (by omega)];simp only [endF,List.getElem_map,wZj];rw [show n+(j+1)=n+1+j by omega]
  ·rw [wYm (by rw [zJu]; omega)];by_cases c2:j=k.size
   ·subst c2;rw [if_pos (by omega)];simp [zJu]
   ·rw [if_neg (by omega),if_neg (by omega)];obtain ⟨m,rfl⟩:∃ m,j=k.size+1+m:=⟨j-k.size-1,by omega⟩
    simp only [zJu,show k.size+1+m-k.size=m+1 by omega,wZt];simp only [endF,List.getElem_map,wZj];rw [show n+(k.size+1+m+1)=n+k.size+2+m by omega]
theorem zKu:∀ (f:Fo) (n p:Nat),n<=p->p<n+f.size->p<=endN n f p/\endN n f p<n+f.size
 | .nil,n,p,_,h=>by simp [Fo.size] at h; omega
 | .draw o r,n,p,h1,h2=>by
  have ih:=zKu r (n+1) p;simp only [Fo.size] at h2 |-;rw [endN];split<;>omega
 | .grp o k r,n,p,h1,h2=>by
  have ik:=zKu k (n+1) p;have ir:=zKu r (n+k.size+2) p;simp only [Fo.size] at h2 |-;rw [endN];split
  ·omega
  ·split<;>omega
theorem zW0:∀ (f:Fo) (n p q:Nat),n<=p->p<n+f.size->p<q->q<=endN n f p->endN n f q<=endN n f p
 | .nil,n,p,q,_,h,_,_=>by simp [Fo.size] at h; omega
 | .draw o r,n,p,q,h1,h2,h3,h4=>by
  have ih:=zW0 r (n+1) p q;have e:=zKu r (n+1) p;simp only [Fo.size] at h2;rw [endN] at h4;rw [endN,endN];split at h4
  ·omega
  ·rw [if_neg (by omega),if_neg (by assumption)];exact ih (by omega) (by omega) h3 h4
 | .grp o k r,n,p,q,h1,h2,h3,h4=>by
  have ik:=zW0 k (n+1) p q;have ir:=zW0 r (n+k.size+2) p q;have ek:=zKu k (n+1) p;have eq:=zKu k (n+1) q;simp only [Fo.size] at h2;simp only [endN] at h4 |-;by_cases c:p=n\/p=n+k.size+1
  ·simp only [c,if_true] at h4 |-;split
   ·omega
   ·split<;>omega
  ·simp only [c,if_false] at h4 |-;by_cases c2:p<=n+k.size
   ·simp only [c2,if_true] at h4 |-;rw [if_neg (by omega),if_pos (by omega)];exact ik (by omega) (by omega) h3 h4
   ·simp only [c2,if_false] at h4 |-;rw [if_neg (by omega),if_neg (by omega)];exact ir (by omega) (by omega) h3 h4
theorem zKt:∀ (f:Fo) (n p q:Nat),n<=p->p<n+f.size->p<q->q<endN n f p->endN n f q<endN n f p
 | .nil,n,p,q,_,h,_,_=>by simp [Fo.size] at h; omega
 | .draw o r,n,p,q,h1,h2,h3,h4=>by
  have ih:=zKt r (n+1) p q;simp only [Fo.size] at h2;rw [endN] at h4;rw [endN,endN];split at h4
  ·omega
  ·rw [if_neg (by omega),if_neg (by assumption)];exact ih (by omega) (by omega) h3 h4
 | .grp o k r,n,p,q,h1,h2,h3,h4=>by
  have ik:=zKt k (n+1) p q;have ir:=zKt r (n+k.size+2) p q;have ek:=zKu k (n+1) p;have eq:=zKu k (n+1) q;simp only [Fo.size] at h2;simp only [endN] at h4 |-;by_cases c:p=n\/p=n+k.size+1
  ·simp only [c,if_true] at h4 |-;split
   ·omega
   ·split<;>omega
  ·simp only [c,if_false] at h4 |-;by_cases c2:p<=n+k.size
   ·simp only [c2,if_true] at h4 |-;rw [if_neg (by omega),if_pos (by omega)];exact ik (by omega) (by omega) h3 h4
   ·simp only [c2,if_false] at h4 |-;rw [if_neg (by omega),if_neg (by omega)];exact ir (by omega) (by omega) h3 h4
theorem jHr {α:Type} (A:List α) (x:α) (B:List α) (v:α):(A++x::B).set A.length v=A++v::B:=by
 rw [List.set_append_right _ _ (Nat.le_refl _),wZg]; rfl
theorem set_mid' {α:Type} {A:List α} {x:α} {B:List α} (v:α) {n:Nat} (h:n=A.length):(A++x::B).set n v=A++v::B:=by
 subst h; exact jHr A x B v
theorem zJ3 {α:Type} {X:List α} {n:Nat} (h:X.length=n+1):∃ x Y,X=x::Y/\Y.length=n:=by
 cases X with
 | nil=>simp at h
 | cons x Y=>exact ⟨x,Y,rfl,by simpa using h⟩
theorem jW0 {α:Type} {X:List α} {a b:Nat} (h:X.length=a+b):∃ U V,X=U++V/\U.length=a/\V.length=b:=
 ⟨X.take a,X.drop a,(wZy a X).symm,by rw [wQm]; omega,by rw [wZG]; omega⟩
theorem zG5:popO.kind=3:=rfl
abbrev wZk:=@List.dropLast_concat
theorem jZu:∀ (f:Fo) (A X B op:List Int) (tail:List Oq) (n:Nat),f.ok->n=A.length->X.length=f.size ->
  runE (f.flat++tail) n (A++(X++B)) op=runE tail (n+f.size) (A++(endF n f++B)) op
 | .nil,A,X,B,op,tail,n,_,_,hX=>by
  have:X=[]:=List.length_eq_zero_iff.1 hX;subst this;rfl
 | .draw o r,A,X,B,op,tail,n,ho,hn,hX=>by
  obtain ⟨x,X,rfl,hX1⟩:=zJ3 (n:=r.size) hX;rw [jUs,Fo.flat,List.cons_append,runE,if_pos ho.1,List.cons_append,set_mid' _ hn];have ih:=jZu r (A++[(n:Int)]) X B op tail (n+1) ho.2 (by simp [hn]) hX1;simp only [List.append_assoc,List.cons_append,List.nil_append] at ih;rw [ih,Fo.size,List.cons_append];congr 1; omega
 | .grp o k r,A,X,B,op,tail,n,ho,hn,hX=>by
  obtain ⟨x,X,rfl,hX1⟩:=zJ3 (n:=k.size+r.size+1) hX;obtain ⟨U,V,rfl,hU,hV⟩:=jW0 (a:=k.size) (b:=r.size+1) (by omega:X.length=_);obtain ⟨y,V,rfl,hV1⟩:=zJ3 (n:=r.size) hV;rw [jGG,Fo.flat,List.cons_append,runE,if_neg (by rw [ho.1]; decide),if_pos ho.1,List.cons_append,set_mid' _ hn];have ik:=jZu k (A++[(n:Int)]) U (y::V++B) (op++[(n:Int)]) (popO::(r.flat++tail)) (n+1) ho.2.1 (by simp [hn]) hU;simp only [List.append_assoc,List.cons_append,List.nil_append] at ik |-;rw [ik,runE,if_neg (by decide),if_neg (by decide),if_pos zG5,if_neg (by simp)];have e1:(A++(n:Int)::(endF (n+1) k++y::(V++B))).set (n+1+k.size) ((n+1+k.size:Nat):Int)=A++(n:Int)::(endF (n+1) k++((n+1+k.size:Nat):Int)::(V++B)):=by
   have:=set_mid' (A:=A++(n:Int)::endF (n+1) k) (x:=y) (B:=V++B) ((n+1+k.size:Nat):Int) (n:=n+1+k.size) (by simp [zJu]; omega);simpa only [List.append_assoc,List.cons_append] using this
  rw [e1];have e2:(((op++[(n:Int)])[(op++[(n:Int)]).length-1]?).getD 0).toNat=n:=by simp
  rw [e2,set_mid' _ hn,wZk];have ir:=jZu r (A++((n+1+k.size:Nat):Int)::(endF (n+1) k++[((n+1+k.size:Nat):Int)])) V B op tail (n+1+k.size+1) ho.2.2 (by simp [zJu]; omega) hV1;simp only [List.append_assoc,List.cons_append,List.nil_append] at ir;rw [ir,Fo.size];have a1:n+1+k.size+1+r.size=n+(k.size+r.size+2):=by omega
  have a2:n+1+k.size+1=n+k.size+2:=by omega
  have a3:n+1+k.size=n+k.size+1:=by omega
  rw [a1,a2,a3]
theorem jGF {f:Fo} (h:f.ok):zZy f.flat=(endF 0 f,0):=by
 have:=jZu f [] (List.replicate f.size 0) [] [] [] 0 h rfl (by simp);simp only [wQW,List.nil_append] at this;unfold zZy;rw [Fo.flat_len,this,runE,if_pos rfl]
theorem jQl {a:Rc} (h:a=Rc.zero\/a.empty=false):Rc.hull Rc.zero a=a:=by
 unfold Rc.hull
 rcases h with rfl | h
 ·rw [if_pos (by decide)]
 ·rw [h,if_neg (by decide),if_pos (by decide)]
theorem jYq {a b:Rc} (h:a=Rc.zero\/a.empty=false):Rc.hull a b=Rc.zero\/(Rc.hull a b).empty=false:=by
 unfold Rc.hull;split
 ·exact h
 ·rename_i hb;have hb:b.empty=false:=by simpa using hb
  split
  ·exact .inr hb
  ·rename_i ha;have ha:a.empty=false:=by simpa using ha
   refine .inr ?_;rw [Rc.empty_iff] at *;simp only;omega
theorem jYr {a b:Rc} (h:a=Rc.zero\/a.empty=false):zZN [a,b]=Rc.hull a b:=by
 show Rc.hull (Rc.hull Rc.zero a) b=_
 rw [jQl h]
def zQE (s:Scr):Fo->List Rc
 | .nil=>[]
 | .draw o r=>boxF s o (imgR s o)::zQE s r
 | .grp o k r=>boxF s o (zZN (zQE s k))::zQE s r
def boxN (s:Scr):Nat->Fo->Nat->Rc
 | _,.nil,_=>Rc.zero
 | n,.draw o r,p=>if p=n then boxF s o (imgR s o) else boxN s (n+1) r p
 | n,.grp o k r,p=>if p=n\/p=n+k.size+1 then boxF s o (zZN (zQE s k)) else if p<=n+k.size then boxN s (n+1) k p else boxN s (n+k.size+2) r p
def boxL (s:Scr) (n:Nat) (f:Fo):List Rc:=(List.range f.size).map λj=>boxN s n f (n+j)
theorem zXU (s:Scr) (n:Nat) (f:Fo):(boxL s n f).length=f.size:=by simp [boxL]
theorem zW3 (s:Scr) (n:Nat) (o:Oq) (r:Fo):boxL s n (.draw o r)=boxF s o (imgR s o)::boxL s (n+1) r:=by
 unfold boxL;rw [Fo.size,List.range_succ_eq_map,wQg,wQ5];refine congr (congrArg List.cons (by simp [boxN])) (List.map_congr_left λj _=>?_)
 show boxN s n (.draw o r) (n+(j+1))=_
 rw [boxN,if_neg (by omega),show n+(j+1)=n+1+j by omega]
theorem zGz (s:Scr) (n:Nat) (o:Oq) (k r:Fo):boxL s n (.grp o k r)=boxF s o (zZN (zQE s k))::(boxL s (n+1) k++boxF s o (zZN (zQE s k))::boxL s (n+k.size+2) r):=by
 refine wQ1 (by simp [zXU,Fo.size]; omega) λj h1 h2=>?_;have hj:j<k.size+r.size+2:=by simpa [boxL,Fo.size] using h1
 have e:(boxL s n (.grp o k r))[j]=boxN s n (.grp o k r) (n+j):=by simp [boxL]
 rw [e,boxN]
 cases j with
 | zero=>simp
 | succ j=>
  rw [wZt];by_cases c1:j<k.size
  ·rw [wYB (by rw [zXU]; exact c1),if_neg (by omega),if_pos (by omega)];simp only [boxL,List.getElem_map,wZj];rw [show n+(j+1)=n+1+j by omega]
  ·rw [wYm (by rw [zXU]; omega)];by_cases c2:j=k.size
   ·subst c2;rw [if_pos (by omega)];simp [zXU]
   ·rw [if_neg (by omega),if_neg (by omega)];obtain ⟨m,rfl⟩:∃ m,j=k.size+1+m:=⟨j-k.size-1,by omega⟩
    simp only [zXU,show k.size+1+m-k.size=m+1 by omega,wZt];simp only [boxL,List.getElem_map,wZj];rw [show n+(k.size+1+m+1)=n+k.size+2+m by omega]
structure Occ (s:Scr) (w:Fo) (n:Nat) (f:Fo):Prop where
  ok:f.ok
  fits:n+f.size<=w.size
  op:∀ j,j<f.size->w.flat[n+j]?=f.flat[j]?
  en:∀ p,n<=p->p<n+f.size->endN 0 w p=endN n f p
  bx:∀ p,n<=p->p<n+f.size->boxN s 0 w p=boxN s n f p
theorem Occ.whole (s:Scr) {w:Fo} (h:w.ok):Occ s w 0 w:=⟨h,by omega,λj _=>by rw [Nat.zero_add],λ_ _ _=>rfl,λ_ _ _=>rfl⟩
theorem Occ.draw {s:Scr} {w:Fo} {n:Nat} {o:Oq} {r:Fo} (h:Occ s w n (.draw o r)):o.kind=1/\n<w.size/\w.flat[n]?=some o/\endN 0 w n=n/\boxN s 0 w n=boxF s o (imgR s o)/\Occ s w (n+1) r:=by
 obtain ⟨h1,h2,h3,h4,h5⟩:=h;simp only [Fo.size] at *;refine ⟨h1.1,by omega,by simpa [Fo.flat] using h3 0 (by omega),by rw [h4 n (Nat.le_refl _) (by omega),endN,if_pos rfl],by rw [h5 n (Nat.le_refl _) (by omega),boxN,if_pos rfl],h1.2,by omega,λj hj=>?_,λp p1 p2=>?_,λp p1 p2=>?_⟩
 ·have:=h3 (j+1) (by omega);rw [show n+1+j=n+(j+1) by omega,this];simp [Fo.flat]
 ·rw [h4 p (by omega) (by omega),endN,if_neg (by omega)]
 ·rw [h5 p (by omega) (by omega),boxN,if_neg (by omega)]
theorem Occ.grp {s:Scr} {w:Fo} {n:Nat} {o:Oq} {k r:Fo} (h:Occ s w n (.grp o k r)):o.kind=2/\n+k.size+1<w.size/\w.flat[n]?=some o/\w.flat[n+k.size+1]?=some popO/\endN 0 w n=n+k.size+1/\endN 0 w (n+k.size+1)=n+k.size+1 /\
  boxN s 0 w n=boxF s o (zZN (zQE s k))/\boxN s 0 w (n+k.size+1)=boxF s o (zZN (zQE s k))/\Occ s w (n+1) k/\Occ s w (n+k.size+2) r:=by
 obtain ⟨h1,h2,h3,h4,h5⟩:=h;simp only [Fo.size] at *
 refine ⟨h1.1,by omega,by simpa [Fo.flat] using h3 0 (by omega),?_,by rw [h4 n (Nat.le_refl _) (by omega),endN,if_pos (.inl rfl)],by rw [h4 _ (by omega) (by omega),endN,if_pos (.inr rfl)],by rw [h5 n (Nat.le_refl _) (by omega),boxN,if_pos (.inl rfl)],by rw [h5 _ (by omega) (by omega),boxN,if_pos (.inr rfl)],
  ⟨h1.2.1,by omega,λj hj=>?_,λp p1 p2=>?_,λp p1 p2=>?_⟩,⟨h1.2.2,by omega,λj hj=>?_,λp p1 p2=>?_,λp p1 p2=>?_⟩⟩
 ·have:=h3 (k.size+1) (by omega);rw [<- Nat.add_assoc] at this;rw [this,Fo.flat,wZL,wQp (by rw [k.flat_len]; omega),k.flat_len];simp
 ·have:=h3 (j+1) (by omega);rw [show n+1+j=n+(j+1) by omega,this,Fo.flat,wZL,wQH (by rw [k.flat_len]; omega)]
 ·rw [h4 p (by omega) (by omega),endN,if_neg (by omega),if_pos (by omega)]
 ·rw [h5 p (by omega) (by omega),boxN,if_neg (by omega),if_pos (by omega)]
 ·have:=h3 (k.size+2+j) (by omega);rw [show n+k.size+2+j=n+(k.size+2+j) by omega,this,Fo.flat,show k.size+2+j=(k.size+(j+1))+1 by omega,wZL,wQp (by rw [k.flat_len]; omega),k.flat_len,show k.size+(j+1)-k.size=j+1 by omega,wZL]
 ·rw [h4 p (by omega) (by omega),endN,if_neg (by omega),if_neg (by omega)]
 ·rw [h5 p (by omega) (by omega),boxN,if_neg (by omega),if_neg (by omega)]
theorem Occ.find {s:Scr} {w:Fo}:∀ (f:Fo) (n:Nat),Occ s w n f->∀ p,n<=p->p<n+f.size ->
  (∃ o r,Occ s w p (.draw o r))\/(∃ o k r,Occ s w p (.grp o k r))\/(∃ q o k r,Occ s w q (.grp o k r)/\p=q+k.size+1)
 | .nil,n,h,p,h1,h2=>by simp [Fo.size] at h2; omega
 | .draw o r,n,h,p,h1,h2=>by
  simp only [Fo.size] at h2;by_cases e:p=n
  ·subst e; exact .inl ⟨o,r,h⟩
  ·exact Occ.find r (n+1) h.draw.2.2.2.2.2 p (by omega) (by omega)
 | .grp o k r,n,h,p,h1,h2=>by
  simp only [Fo.size] at h2;obtain ⟨_,_,_,_,_,_,_,_,hk,hr⟩:=h.grp;by_cases e:p=n
  ·subst e; exact .inr (.inl ⟨o,k,r,h⟩)
  ·by_cases e2:p<=n+k.size
   ·exact Occ.find k (n+1) hk p (by omega) (by omega)
   ·by_cases e3:p=n+k.size+1
    ·exact .inr (.inr ⟨n,o,k,r,h,e3⟩)
    ·exact Occ.find r (n+k.size+2) hr p (by omega) (by omega)
theorem Occ.at {s:Scr} {w:Fo} (hw:w.ok) {p:Nat} (h:p<w.size) :
  (∃ o r,Occ s w p (.draw o r))\/(∃ o k r,Occ s w p (.grp o k r))\/(∃ q o k r,Occ s w q (.grp o k r)/\p=q+k.size+1):=
 Occ.find w 0 (Occ.whole s hw) p (by omega) (by omega)
theorem jZ5 {l:List Oq} {n:Nat} {o:Oq} (h:l[n]?=some o):(l[n]?).getD popO=o:=by rw [h]; rfl
theorem zGQ (s:Scr) (n:Nat):runB s (n+1)=zU8 s n ((s.ops[n]?).getD popO) (runB s n):=rfl
abbrev wZI:=@Nat.add_sub_cancel
theorem jZv {s:Scr} {w:Fo} (hs:s.ops=w.flat):∀ (f:Fo) (n:Nat),Occ s w n f->∀ (A X B:List Rc) (op:List Int) (hs:List Rc) (h:Rc),n=A.length->X.length=f.size->(h=Rc.zero\/h.empty=false) ->
  runB s n=(A++(X++B),op,hs++[h])->runB s (n+f.size)=(A++(boxL s n f++B),op,hs++[(zQE s f).foldl Rc.hull h])
 | .nil,n,ho,A,X,B,op,hs,h,hn,hX,hh,hr=>by
  have:X=[]:=List.length_eq_zero_iff.1 hX;subst this;exact hr
 | .draw o r,n,ho,A,X,B,op,hs',h,hn,hX,hh,hr=>by
  obtain ⟨x,X,rfl,hX1⟩:=zJ3 (n:=r.size) hX;obtain ⟨k1,_,k2,k3,k4,k5⟩:=ho.draw;have e1:runB s (n+1)=((A++[boxF s o (imgR s o)])++(X++B),op,hs'++[Rc.hull h (boxF s o (imgR s o))]):=by
   rw [zGQ,hr,hs,jZ5 k2];unfold zU8 zU9;rw [if_neg (by rw [k1]; decide),if_pos k1];simp only [List.cons_append,List.append_assoc,List.nil_append];rw [set_mid' _ hn];have g:(A++boxF s o (imgR s o)::(X++B))[n]?=some (boxF s o (imgR s o)):=by subst hn; simp
   rw [g];simp only [wQF,topB,wQi,wQJ,wZq,wZI];rw [wQp (Nat.le_refl _),wZg,wZR,wQF,jYr hh,set_mid' (A:=hs') _ (by simp)]
  have ih:=jZv hs r (n+1) k5 _ X B op hs' _ (by simp [hn]) hX1 (jYq hh) e1;rw [zW3,Fo.size,show n+(r.size+1)=n+1+r.size by omega,ih];simp [zQE]
 | .grp o k r,n,ho,A,X,B,op,hs',h,hn,hX,hh,hr=>by
  obtain ⟨x,X,rfl,hX1⟩:=zJ3 (n:=k.size+r.size+1) hX;obtain ⟨U,V,rfl,hU,hV⟩:=jW0 (a:=k.size) (b:=r.size+1) (by omega:X.length=_);obtain ⟨y,V,rfl,hV1⟩:=zJ3 (n:=r.size) hV;obtain ⟨k1,_,k2,k3,k4,k5,k6,k7,k8,k9⟩:=ho.grp;have e1:runB s (n+1)=((A++[x])++(U++(y::(V++B))),op++[(n:Int)],(hs'++[h])++[Rc.zero]):=by
   rw [zGQ,hr,hs,jZ5 k2];unfold zU8;rw [if_pos k1];simp
  have ik:=jZv hs k (n+1) k8 _ U _ _ _ _ (by simp [hn]) hU (.inl rfl) e1;have e2:runB s (n+1+k.size+1)=((A++boxF s o (zZN (zQE s k))::(boxL s (n+1) k++[boxF s o (zZN (zQE s k))]))++(V++B),op,hs'++[Rc.hull h (boxF s o (zZN (zQE s k)))]):=by
   rw [zGQ,ik,hs,show n+1+k.size=n+k.size+1 by omega,jZ5 k3];have ep:(((op++[(n:Int)])[(op++[(n:Int)]).length-1]?).getD 0).toNat=n:=by simp
   have eh:(((hs'++[h]++[(zQE s k).foldl Rc.hull Rc.zero])[(hs'++[h]++[(zQE s k).foldl Rc.hull Rc.zero]).length-1]?).getD Rc.zero)=zZN (zQE s k):=by
    simp only [wQi,wQJ,wZq,wZI];rw [wQp (by simp)];simp [zZN]
   unfold zU8 zU9;rw [if_neg (by rw [zG5]; decide),if_neg (by rw [zG5]; decide)];simp only [ep,eh,hs,jZ5 k2,wZk];have s1:(A++[x]++(boxL s (n+1) k++y::(V++B))).set (n+k.size+1) (boxF s o (zZN (zQE s k)))=A++x::(boxL s (n+1) k++boxF s o (zZN (zQE s k))::(V++B)):=by
    have:=set_mid' (A:=A++[x]++boxL s (n+1) k) (x:=y) (B:=V++B) (boxF s o (zZN (zQE s k))) (n:=n+k.size+1) (by simp [zXU]; omega);simpa only [List.append_assoc,List.cons_append,List.nil_append] using this
   rw [s1,set_mid' _ hn];have g:(A++boxF s o (zZN (zQE s k))::(boxL s (n+1) k++boxF s o (zZN (zQE s k))::(V++B)))[n+k.size+1]?=some (boxF s o (zZN (zQE s k))):=by
    have:(A++boxF s o (zZN (zQE s k))::boxL s (n+1) k++boxF s o (zZN (zQE s k))::(V++B))[n+k.size+1]?=some (boxF s o (zZN (zQE s k))):=by
     rw [wQp (by simp [zXU]; omega)];have:n+k.size+1-(A++boxF s o (zZN (zQE s k))::boxL s (n+1) k).length=0:=by simp [zXU]; omega
     rw [this]; rfl
    simpa only [List.append_assoc,List.cons_append] using this
   rw [g];simp only [wQF,topB,wQi,wQJ,wZq,wZI];rw [wQp (Nat.le_refl _),wZg,wZR,wQF,jYr hh,set_mid' (A:=hs') _ (by simp)];simp
  have ir:=jZv hs r (n+k.size+2) k9 (A++boxF s o (zZN (zQE s k))::(boxL s (n+1) k++[boxF s o (zZN (zQE s k))])) V B op hs' _ (by simp [zXU]; omega) hV1 (jYq hh) (by rw [show n+k.size+2=n+1+k.size+1 by omega]; exact e2);rw [zGz,Fo.size,show n+(k.size+r.size+2)=n+k.size+2+r.size by omega,ir];simp [zQE]
theorem jK6 {s:Scr} {w:Fo} (hw:w.ok) (hs:s.ops=w.flat):(runB s s.ops.length).1=boxL s 0 w:=by
 have h:=jZv hs w 0 (Occ.whole s hw) [] (List.replicate s.ops.length Rc.zero) [] [] [] Rc.zero rfl (by rw [wXr,hs,w.flat_len]) (.inl rfl) (by simp [runB]);rw [hs,w.flat_len];rw [Nat.zero_add] at h;rw [h];simp
theorem yQw {s:Scr} (h:s.run.1=0):∃ w:Fo,w.ok/\s.ops=w.flat:=jKX (zY8 h).2
open Classical in
noncomputable def foOf (s:Scr):Fo:=if h:∃ w:Fo,w.ok/\s.ops=w.flat then Classical.choose h else .nil
theorem zXu {s:Scr} (h:s.run.1=0):(foOf s).ok/\s.ops=(foOf s).flat:=by
 have h:=yQw h;unfold foOf;rw [dif_pos h];exact Classical.choose_spec h
theorem zZH {s:Scr} (h:s.run.1=0):s.ops.length=(foOf s).size:=by
 have e:=congrArg List.length (zXu h).2;rw [Fo.flat_len] at e;exact e
theorem jUr {s:Scr} (h:s.run.1=0):zZy s.ops=(endF 0 (foOf s),0):=by
 rw [(zXu h).2];have:=jGF (zXu h).1;generalize foOf s=w at *;exact this
def enAt (s:Scr) (p:Nat):Nat:=(((zZy s.ops).1[p]?).getD 0).toNat
def bxAt (s:Scr) (p:Nat):Rc:=((zXm s).1[p]?).getD Rc.zero
def opAt (s:Scr) (p:Nat):Oq:=(s.ops[p]?).getD popO
theorem jGE {s:Scr} (h:s.run.1=0):(zZy s.ops).1.length=s.ops.length/\(zZy s.ops).2=0:=by
 rw [jUr h,zJu,<- zZH h];exact ⟨rfl,rfl⟩
theorem zXv {s:Scr} (h:s.run.1=0) {p:Nat} (hp:p<s.ops.length):(zZy s.ops).1[p]?=some ((endN 0 (foOf s) p:Nat):Int)/\enAt s p=endN 0 (foOf s) p:=by
 have e:(zZy s.ops).1[p]?=some ((endN 0 (foOf s) p:Nat):Int):=by
  rw [jUr h];simp only [endF,Nat.zero_add];rw [wQN,wZP (by rw [<- zZH h]; exact hp)];rfl
 exact ⟨e,by unfold enAt; rw [e]; simp⟩
theorem jJ1 {s:Scr} (h:s.run.1=0) {p:Nat} (hp:p<s.ops.length):(zZy s.ops).1[p]?=some ((enAt s p:Nat):Int):=by
 rw [(zXv h hp).2];exact (zXv h hp).1
theorem jK5 {s:Scr} (h:s.run.1=0):(zXm s).1=boxL s 0 (foOf s)/\(zXm s).2=0/\(zXm s).1.length=s.ops.length:=by
 have e:=jK6 (zXu h).1 (zXu h).2;unfold zXm;rw [if_pos h,e];exact ⟨rfl,rfl,by rw [zXU,<- zZH h]⟩
theorem zKw {s:Scr} (h:s.run.1=0) {p:Nat} (hp:p<s.ops.length):bxAt s p=boxN s 0 (foOf s) p:=by
 unfold bxAt;rw [(jK5 h).1];simp only [boxL,Nat.zero_add];rw [wQN,wZP (by rw [<- zZH h]; exact hp)];rfl
theorem jUC {s:Scr} (h:s.run.1≠0):zXm s=([],s.run.1):=by
 unfold zXm; rw [if_neg h]
theorem yQg {s:Scr} (h:s.run.1=0) {p:Nat} (hp:p<s.ops.length) :
  (∃ o r,Occ s (foOf s) p (.draw o r)/\opAt s p=o/\o.kind=1/\enAt s p=p/\bxAt s p=boxF s o (imgR s o)) \/
  (∃ o k r,Occ s (foOf s) p (.grp o k r)/\opAt s p=o/\o.kind=2/\enAt s p=p+k.size+1/\bxAt s p=boxF s o (zZN (zQE s k))/\p+k.size+1<s.ops.length) \/
  (∃ q o k r,Occ s (foOf s) q (.grp o k r)/\p=q+k.size+1/\opAt s p=popO/\enAt s p=p/\opAt s q=o/\o.kind=2/\enAt s q=p/\bxAt s p=bxAt s q):=by
 obtain ⟨hw,hs⟩:=zXu h;have hz:=zZH h;have g:∀ {q:Nat} {o:Oq},(foOf s).flat[q]?=some o->opAt s q=o:=λ{q o} hq=>by
  unfold opAt;have:s.ops[q]?=some o:=by rw [<- hq]; exact congrArg (λl:List Oq=>l[q]?) hs
  rw [this]; rfl
 rcases Occ.at (s:=s) hw (p:=p) (by omega) with ⟨o,r,ho⟩ | ⟨o,k,r,ho⟩ | ⟨q,o,k,r,ho,e⟩
 ·obtain ⟨k1,k0,k2,k3,k4,k5⟩:=ho.draw;exact .inl ⟨o,r,ho,g k2,k1,by rw [(zXv h hp).2]; exact k3,by rw [zKw h hp]; exact k4⟩
 ·obtain ⟨k1,k0,k2,k3,k4,k5,k6,k7,k8,k9⟩:=ho.grp;exact .inr (.inl ⟨o,k,r,ho,g k2,k1,by rw [(zXv h hp).2]; exact k4,by rw [zKw h hp]; exact k6,by omega⟩)
 ·obtain ⟨k1,k0,k2,k3,k4,k5,k6,k7,k8,k9⟩:=ho.grp;subst e;exact .inr (.inr ⟨q,o,k,r,ho,rfl,g k3,by rw [(zXv h hp).2]; exact k5,g k2,k1,by rw [(zXv h (by omega)).2]; exact k4,by rw [zKw h hp,zKw h (by omega),k7,k6]⟩)
theorem zUJ {s:Scr} (h:s.run.1=0) {p:Nat} (hp:p<s.ops.length):p<=enAt s p/\enAt s p<s.ops.length:=by
 have:=zKu (foOf s) 0 p (by omega) (by rw [<- zZH h]; omega);rw [<- zZH h] at this;rw [(zXv h hp).2];omega
theorem zW1 {s:Scr} (h:s.run.1=0) {p q:Nat} (hp:p<s.ops.length) (h1:p<q) (h2:q<=enAt s p):enAt s q<=enAt s p:=by
 have he:=zUJ h hp;have:=zW0 (foOf s) 0 p q (by omega) (by rw [<- zZH h]; omega) h1 (by rw [<- (zXv h hp).2]; exact h2);rw [(zXv h hp).2,(zXv h (p:=q) (by omega)).2];exact this
theorem jX8 {s:Scr} (h:s.run.1=0) {p:Nat} (hp:p<s.ops.length):(opAt s p).kind=1\/(opAt s p).kind=2\/((opAt s p).kind=3/\∃ q,q<p/\(opAt s q).kind=2/\enAt s q=p/\bxAt s p=bxAt s q):=by
 rcases yQg h hp with ⟨o,r,_,e1,e2,_⟩ | ⟨o,k,r,_,e1,e2,_⟩ | ⟨q,o,k,r,_,e0,e1,_,e2,e3,e4,e5⟩
 ·exact .inl (by rw [e1]; exact e2)
 ·exact .inr (.inl (by rw [e1]; exact e2))
 ·exact .inr (.inr ⟨by rw [e1]; rfl,q,by omega,by rw [e2]; exact e3,e4,e5⟩)
theorem jUt {s:Scr} (h:s.run.1=0) {p:Nat} (hp:p<s.ops.length) (hk:(opAt s p).kind≠2):enAt s p=p:=by
 rcases yQg h hp with ⟨o,r,_,e1,e2,e3,_⟩ | ⟨o,k,r,_,e1,e2,_⟩ | ⟨q,o,k,r,_,e0,e1,e2,_⟩
 ·exact e3
 ·exact absurd (by rw [e1]; exact e2) hk
 ·exact e2
theorem jX0 {s:Scr} (h:s.run.1=0) {p:Nat} (hp:p<s.ops.length) (hk:(opAt s p).kind=2):p<enAt s p/\(opAt s (enAt s p)).kind=3/\bxAt s (enAt s p)=bxAt s p/\enAt s (enAt s p)=enAt s p:=by
 rcases yQg h hp with ⟨o,r,_,e1,e2,e3,_⟩ | ⟨o,k,r,ho,e1,e2,e3,e4,e5⟩ | ⟨q,o,k,r,_,e0,e1,e2,_⟩
 ·rw [e1] at hk; omega
 ·obtain ⟨k1,k0,k2,k3,k4,k5,k6,k7,k8,k9⟩:=ho.grp;rw [e3];refine ⟨by omega,?_,?_,by rw [(zXv h (by omega)).2]; exact k5⟩
  ·have:opAt s (p+k.size+1)=popO:=by
    unfold opAt;have:s.ops[p+k.size+1]?=some popO:=by rw [<- k3]; exact congrArg (λl:List Oq=>l[p+k.size+1]?) (zXu h).2
    rw [this]; rfl
   rw [this]; rfl
  ·rw [zKw h (by omega),zKw h hp,k7,k6]
 ·rw [e1] at hk; exact absurd hk (by decide)
def bs (l:List Bool):List DV:=l.map .bool
theorem zHP (l:List Bool):(bs l).length=l.length:=by simp [bs]
theorem jUA {l:List Bool} {k:Nat} {v:Bool} (h:l[k]?=some v):(bs l)[k]?=some (.bool v):=by simp [bs,h]
theorem jUB {l:List Bool} {k:Nat} {v:Bool} (h:l[k]?=some v):bAt (bs l) k=v:=by simp [bAt,jUA h]
theorem yQ4 (l:List Bool) (k:Nat) (v:Bool):(bs l).set k (.bool v)=bs (l.set k v):=by simp [bs]
theorem yQd (n:Nat):bs (List.replicate n false)=List.replicate n (.bool false):=by simp [bs]
theorem jKS {l:List Int} {k:Nat} {v:Int} (h:l[k]?=some v):(is l)[k]?=some (.int .i64 v):=by simp [is,h]
theorem jW3 {l:List Int} {k:Nat} {v:Int} (h:l[k]?=some v):nAt (is l) k=v:=by simp [nAt,jKS h]
def hitB (s:Scr) (r:Rc) (p:Nat):Bool:=!(Rc.inter (bxAt s p) r).empty
def jUM (s:Scr) (r:Rc) (i k:Nat):Bool:=hitB s r i&&(List.range k).all λj=>!(decide ((opAt s j).kind=2)&&decide (i<enAt s j)) || hitB s r j
def zXE (s:Scr) (r:Rc) (i:Nat):Bool:=jUM s r i i
def zXe (s:Scr) (r:Rc):List Bool × Int:=if s.run.1=0 then ((List.range s.ops.length).map (zXE s r),0) else ([],s.run.1)
def zYX (s:Scr) (r:Rc) (k:Nat):List Bool:=(List.range s.ops.length).map λp=>decide (p<k)&&zXE s r p
def Live (s:Scr) (r:Rc) (k:Nat):Prop:=∀ j,j<k->(opAt s j).kind=2->k<enAt s j->hitB s r j=true
theorem jVY (s:Scr) (r:Rc):zYX s r 0=List.replicate s.ops.length false:=by
 refine wQ1 (by simp [zYX]) λp h1 h2=>?_;simp [zYX]
theorem jUL (s:Scr) (r:Rc):zYX s r s.ops.length=(List.range s.ops.length).map (zXE s r):=by
 refine List.map_congr_left λp hp=>?_;rw [wQw] at hp;simp [hp]
theorem jUK (s:Scr) (r:Rc) (k:Nat):(zYX s r k).length=s.ops.length:=by simp [zYX]
theorem jZi (s:Scr) (r:Rc) (k:Nat):(zYX s r k).set k (zXE s r k)=zYX s r (k+1):=by
 refine wQ1 (by simp [zYX]) λp h1 h2=>?_;rw [List.getElem_set];simp only [zYX,List.getElem_map,wZj];split
 ·rename_i e; subst e; simp
 ·rename_i e;have:(p<k)↔(p<k+1):=by omega
  simp [this]
theorem zWP {s:Scr} {r:Rc} {k:Nat} (h:Live s r k):zXE s r k=hitB s r k:=by
 unfold zXE jUM;have:((List.range k).all λj=>!(decide ((opAt s j).kind=2)&&decide (k<enAt s j)) || hitB s r j)=true:=by
  rw [List.all_eq_true];intro j hj;rw [wQw] at hj;have:=h j hj;by_cases c1:(opAt s j).kind=2<;>by_cases c2:k<enAt s j<;>simp [c1,c2];exact this c1 c2
 rw [this,wXq]
theorem jWX (s:Scr) (r:Rc):Live s r 0:=λj hj=>by omega
theorem jYc {s:Scr} {r:Rc} {k:Nat} (h:Live s r k) (hk:¬ ((opAt s k).kind=2/\hitB s r k=false)):Live s r (k+1):=by
 intro j hj h2 h3;by_cases e:j=k
 ·subst e
  cases hb:hitB s r j with
  | true=>rfl
  | false=>exact absurd ⟨h2,hb⟩ hk
 ·exact h j (by omega) h2 (by omega)
abbrev wYn:=@Nat.lt_trichotomy
abbrev wXV:=@Bool.and_false
theorem jWY {s:Scr} {r:Rc} {k:Nat} (hv:s.run.1=0) (hk:k<s.ops.length) (h:Live s r k) (h2:(opAt s k).kind=2) (hb:hitB s r k=false) :
  Live s r (enAt s k+1)/\zYX s r (enAt s k+1)=zYX s r k:=by
 have he:=zUJ hv hk;obtain ⟨p1,p2,p3,p4⟩:=jX0 hv hk h2;refine ⟨λj hj j2 j3=>?_,?_⟩
 ·rcases wYn j k with c | c | c
  ·exact h j c j2 (by omega)
  ·subst c; omega
  ·by_cases e:j=enAt s k
   ·rw [e] at j2; omega
   ·have:=zW1 hv hk c (by omega);omega
 ·refine wQ1 (by simp [zYX]) λp h1 h1'=>?_;simp only [zYX,List.getElem_map,wZj];by_cases c1:p<k
  ·have:p<enAt s k+1:=by omega
   simp [c1,this]
  ·by_cases c2:p<enAt s k+1
   ·have:zXE s r p=false:=by
     by_cases e1:p=k
     ·rw [e1,zWP h,hb]
     ·by_cases e2:p=enAt s k
      ·have:hitB s r p=false:=by rw [<- hb,e2]; unfold hitB; rw [p3]
       unfold zXE jUM;rw [this,Bool.false_and]
      ·unfold zXE jUM;have:((List.range p).all λj=>!(decide ((opAt s j).kind=2)&&decide (p<enAt s j)) || hitB s r j)=false:=by
        rw [List.all_eq_false];refine ⟨k,wQw.2 (by omega),?_⟩;have:p<enAt s k:=by omega
        simp [h2,hb,this]
       rw [this,wXV]
    simp [this]
   ·simp [c1,c2]
structure Lv where
  op:Oq
  acc:Ac
  back:Px
def zZR:Lv:=⟨⟨2,0,0,0,0,0,0,0,0,0,true,false⟩,.zero,.zero⟩
def topL (L:List Lv):Lv:=(L[L.length-1]?).getD zZR
def zX5 (p:Px) (k m:Int):Bool:=zZ1 m&&(p.ok m&&decide (k<=m))
def zZS (p:Px) (k m:Int):Px × Bool:=if zX5 p k m then (zXg p k m,true) else (.zero,false)
def zJH (p:Px) (a b m:Int):Px × Bool:=if zX5 p a m then zZS (zXg p a m) b m else (.zero,false)
def zZZ (m:Int) (o:Oq) (p:Px) (mask:Int):Px × Bool:=zJH p (if o.mask=0 then m else mask) o.opac m
def zVQ (m:Int) (L:List Lv) (o:Oq) (p:Px):Bool:=zZ4 (topL L).op.kno o.oper o.mode m p (topL L).acc (topL L).back
def zJ0 (m:Int) (L:List Lv) (o:Oq) (p:Px):List Lv:=if zVQ m L o p then L.set (L.length-1) ⟨(topL L).op,accS (topL L).op.kno o.oper o.mode m p (topL L).acc (topL L).back,(topL L).back⟩ else L
def jVP (m:Int) (L:List Lv) (o:Oq) (p:Px) (mask:Int):List Lv:=if o.kind=1/\(zZZ m o p mask).2=true then zJ0 m L o (zZZ m o p mask).1 else L
def jVu (L:List Lv) (o:Oq):List Lv:=if o.kind=2/\L.length<65 then L++[⟨o,(zZI o.iso (topL L).op.kno (topL L).acc (topL L).back).1,(zZI o.iso (topL L).op.kno (topL L).acc (topL L).back).2⟩] else L
def resB (m:Int) (t:Lv):Bool:=t.acc.ok t.back m
def resL (m:Int) (t:Lv):Px:=if resB m t then zZ0 t.acc t.back m else .zero
def popL (m:Int) (L:List Lv) (mask:Int):List Lv:=
 if L.length<=1 then L
 else if (zZZ m (topL L).op (resL m (topL L)) mask).2=false then L
 else if resB m (topL L)&&zVQ m L.dropLast (topL L).op (zZZ m (topL L).op (resL m (topL L)) mask).1 then zJ0 m L.dropLast (topL L).op (zZZ m (topL L).op (resL m (topL L)) mask).1
 else L
def zJE (m:Im) (x y dx dy:Int):Px:=if x<dx\/y<dy\/x-dx>=1099511627776\/y-dy>=1099511627776 then .zero else m.at_ (x-dx) (y-dy)
def zJ5 (ms:List Im) (i x y dx dy:Int):Px:=if 0<=i then match ms[i.toNat]? with
 | some m=>zJE m x y dx dy
 | none=>.zero
 else .zero
def srcS (ms:List Im) (o:Oq) (x y:Int):Px:=if o.kind=1 then zJ5 ms o.image x y o.x o.y else .zero
def zX7 (ms:List Im) (o:Oq) (x y:Int):Int:=if 1<=o.mask then (zJ5 ms (o.mask-1) x y o.mx o.my).al else 0
def zJi (m:Int) (ms:List Im) (x y:Int) (L:List Lv) (o:Oq):List Lv:=
 if o.kind=1 then jVP m L o (srcS ms o x y) (zX7 ms o x y)
 else if o.kind=2 then jVu L o
 else if o.kind=3 then popL m L (zX7 ms (topL L).op x y)
 else L
def runM (m:Int) (ms:List Im) (x y:Int) (l:List Oq) (L:List Lv):List Lv:=l.foldl (zJi m ms x y) L
theorem zYQ (m:Int) (ms:List Im) (x y:Int) (l k:List Oq) (L:List Lv):runM m ms x y (l++k) L=runM m ms x y k (runM m ms x y l L):=List.foldl_append
theorem zZM (m:Int) (ms:List Im) (x y:Int) (o:Oq) (k:List Oq) (L:List Lv):runM m ms x y (o::k) L=runM m ms x y k (zJi m ms x y L o):=rfl
def zJN (m:Int) (ms:List Im) (x y:Int) (l:List Oq):Px:=
 let L:=runM m ms x y l [zZR]
 if 1<L.length then .zero else resL m ((L[0]?).getD zZR)
def Fo.vf (bits:Int) (mn:Nat):List Oq->Fo->Prop
 | st,.nil=>True
 | st,.draw o r=>o.kind=1/\errO bits mn o st=0/\r.vf bits mn st
 | st,.grp o k r=>o.kind=2/\errO bits mn o st=0/\k.vf bits mn (st++[o])/\r.vf bits mn st
theorem zKS {o:Oq} {st:List Oq} (h:o.kind=1):zXA o st=st:=by
 unfold zXA; rw [if_neg (by omega),if_neg (by omega)]
theorem zWw {o:Oq} {st:List Oq} (h:o.kind=2):zXA o st=st++[o]:=by
 unfold zXA; rw [if_pos h]
theorem jKl {st:List Oq}:zXA popO st=st.dropLast:=by
 have h1:popO.kind=3:=rfl;unfold zXA; rw [if_neg (by rw [h1]; decide),if_pos h1]
theorem jQX {bits:Int} {mn:Nat}:∀ (f:Fo) (st st':List Oq),f.ok->okO bits mn f.flat st=some st'->f.vf bits mn st/\st'=st
 | .nil,st,st',_,h=>⟨trivial,by simpa [Fo.flat,okO] using h.symm⟩
 | .draw o r,st,st',hf,h=>by
  simp only [Fo.flat,okO] at h;split at h
  ·rename_i he;rw [zKS hf.1] at h;have ⟨h1,h2⟩:=jQX r st st' hf.2 h;exact ⟨⟨hf.1,he,h1⟩,h2⟩
  ·cases h
 | .grp o k r,st,st',hf,h=>by
  simp only [Fo.flat,okO] at h;split at h
  ·rename_i he;rw [zWw hf.1,zJD] at h
   cases hk:okO bits mn k.flat (st++[o]) with
   | none=>rw [hk] at h; cases h
   | some s1=>
    rw [hk] at h;have ⟨k1,k2⟩:=jQX k (st++[o]) s1 hf.2.1 hk;subst k2;simp only [wX7,okO] at h;split at h
    ·rw [jKl,wZk] at h;have ⟨h1,h2⟩:=jQX r st st' hf.2.2 h;exact ⟨⟨hf.1,he,k1,h1⟩,h2⟩
    ·cases h
  ·cases h
theorem jQz {bits:Int} {mn:Nat}:∀ (f:Fo) (st:List Oq),f.vf bits mn st->f.ok/\okO bits mn f.flat st=some st
 | .nil,st,_=>⟨trivial,rfl⟩
 | .draw o r,st,h=>by
  obtain ⟨h1,h2,h3⟩:=h;have ⟨i1,i2⟩:=jQz r st h3;refine ⟨⟨h1,i1⟩,?_⟩;simp only [Fo.flat,okO];rw [if_pos h2,zKS h1]; exact i2
 | .grp o k r,st,h=>by
  obtain ⟨h1,h2,h3,h4⟩:=h;have ⟨k1,k2⟩:=jQz k (st++[o]) h3;have ⟨i1,i2⟩:=jQz r st h4;refine ⟨⟨h1,k1,i1⟩,?_⟩;simp only [Fo.flat,okO];rw [if_pos h2,zWw h1,zJD,k2];simp only [wX7,okO];rw [if_pos (jXd (by simp)),jKl,wZk]; exact i2
theorem zZn {bits:Int} {mn:Nat} {o:Oq} {st:List Oq} (hk:o.kind=1\/o.kind=2) (h:errO bits mn o st=0) :
  (o.kind=1->0<=o.image/\o.image<mn)/\(0<=o.mask/\o.mask<=mn)/\(zXr o.x=true/\zXr o.y=true/\zXr o.mx=true/\zXr o.my=true)/\o.opac<=zQo bits/\isNm o.oper=true/\isNm o.mode=true/\(o.oper=4\/ctxB st=true)/\(o.kind=2->st.length<64):=by
 unfold errO at h;split at h
 ·cases h
 split at h
 ·cases h
 split at h
 ·omega
 split at h
 ·cases h
 rename_i hm;split at h
 ·cases h
 rename_i hn;split at h
 ·cases h
 split at h
 ·cases h
 rename_i h1;split at h
 ·cases h
 rename_i h2;split at h
 ·cases h
 rename_i h3;split at h
 ·cases h
 rename_i h4;refine ⟨λq=>?_,?_,wZU.1 hn,by omega,decide_eq_true (wZU.1 h1),decide_eq_true (wZU.1 h2),?_,λq=>?_⟩
 ·omega
 ·omega
 ·by_cases q:o.oper=4
  ·exact .inl q
  ·refine .inr ?_
   cases hc:ctxB st with
   | true=>rfl
   | false=>exact absurd ⟨q,hc⟩ h3
 ·omega
structure zJI (m:Int) (ms:List Im):Prop where
  full:zZ1 m=true
  px:∀ i∈ms,∀ x y,(i.at_ x y).ok m=true/\(i.at_ x y).nn
structure StOk (m:Int) (st:List Oq) (L:List Lv):Prop where
  ops:L.map Lv.op=zZR.op::st
  lv:∀ t∈L,LvOk m t.op.iso t.op.kno t.acc t.back
  opac:∀ o∈st,0<=o.opac/\o.opac<=m
theorem StOk.len {m:Int} {st:List Oq} {L:List Lv} (h:StOk m st L):L.length=st.length+1:=by
 have:=congrArg List.length h.ops;simpa using this
theorem zZY (P:List Lv) (t:Lv):topL (P++[t])=t:=by simp [topL]
theorem StOk.split {m:Int} {st:List Oq} {L:List Lv} (h:StOk m st L):∃ P t,L=P++[t]:=by
 have:=h.len;have hne:L≠[]:=by intro e; rw [e] at this; simp at this
 exact ⟨L.dropLast,L.getLast hne,(wYy hne).symm⟩
theorem jH9 {m:Int} {st:List Oq} {P:List Lv} {t:Lv} (h:StOk m st (P++[t])) (hc:ctxB st=true):t.op.iso=true/\t.op.kno=false:=by
 have e:=h.ops;rw [wQ7,wQg,wQk] at e
 cases st with
 | nil=>
  have:P.map Lv.op=[]/\t.op=zZR.op:=by
   cases hp:P.map Lv.op with
   | nil=>rw [hp] at e; simpa using e
   | cons a r=>rw [hp] at e; simp at e
  rw [this.2]; exact ⟨rfl,rfl⟩
 | cons a r=>
  have e2:(zZR.op::a::r).getLast?=some t.op:=by rw [<- e]; simp
  rw [List.getLast?_cons_cons] at e2;unfold ctxB at hc;rw [e2] at hc;simpa using hc
abbrev wYo:=@List.length_singleton
theorem zUg (P:List Lv) (t u:Lv):(P++[t]).set ((P++[t]).length-1) u=P++[u]:=by
 rw [wQi,wYo,wZI,List.set_append_right _ _ (Nat.le_refl _),wZg]; rfl
theorem jWS {m:Int} {ms:List Im} (h:zJI m ms) (i x y dx dy:Int):(zJ5 ms i x y dx dy).ok m=true/\(zJ5 ms i x y dx dy).nn:=by
 have z:=zKb (m:=m) (by have:=(zQ4 h.full).1; omega);unfold zJ5;split
 ·split
  ·rename_i im hi;unfold zJE;split
   ·exact z
   ·exact h.px _ (wZ3 hi) _ _
  ·exact z
 ·exact z
theorem zUN {m:Int} {ms:List Im} (h:zJI m ms) (o:Oq) (x y:Int):(srcS ms o x y).ok m=true/\(srcS ms o x y).nn:=by
 unfold srcS;split
 ·exact jWS h _ _ _ _ _
 ·exact zKb (by have:=(zQ4 h.full).1; omega)
theorem zUy {m:Int} {ms:List Im} (h:zJI m ms) (o:Oq) (x y:Int):0<=zX7 ms o x y/\zX7 ms o x y<=m:=by
 have hm:=(zQ4 h.full).1;unfold zX7;split
 ·obtain ⟨a,b,c,d⟩:=jWS h (o.mask-1) x y o.mx o.my;obtain ⟨q1,q2,q3,q4,q5⟩:=Px.ok_iff.1 a;omega
 ·omega
theorem zKU {m:Int} {o:Oq} {p:Px} {mask:Int} (hf:zZ1 m=true) (hp:p.ok m=true) (hn:p.nn) (h0:0<=mask) (h1:mask<=m) (o0:0<=o.opac) (o1:o.opac<=m) :
  zZZ m o p mask=(zXg (zXg p (if o.mask=0 then m else mask) m) o.opac m,true)/\(zZZ m o p mask).1.ok m=true/\(zZZ m o p mask).1.nn:=by
 have hm:=(zQ4 hf).1;have hk:0<=(if o.mask=0 then m else mask)/\(if o.mask=0 then m else mask)<=m:=by split<;>omega
 have ⟨a1,a2⟩:=jZt hm hp hn hk.1 hk.2;have ⟨b1,b2⟩:=jZt hm a1 a2 o0 o1;have e:zZZ m o p mask=(zXg (zXg p (if o.mask=0 then m else mask) m) o.opac m,true):=by
  unfold zZZ zJH zZS zX5;rw [hf,hp,a1,decide_eq_true hk.2,decide_eq_true o1];rfl
 rw [e];exact ⟨rfl,b1,b2⟩
theorem zUu {m:Int} {st:List Oq} {P:List Lv} {t:Lv} (h:StOk m st (P++[t])) {o:Oq} {p:Px} (hp:p.ok m=true) (hn:p.nn) (h1:isNm o.oper=true) (h2:isNm o.mode=true) (hop:o.oper=4\/ctxB st=true) :
  zVQ m (P++[t]) o p=true/\∃ x,zJ0 m (P++[t]) o p=P++[⟨t.op,x,t.back⟩]/\StOk m st (P++[⟨t.op,x,t.back⟩]):=by
 have ht:=h.lv t (by simp);have hc:o.oper=4\/(t.op.iso=true/\t.op.kno=false):=hop.imp id (jH9 h);have ⟨k1,k2⟩:=jHn ht hp hn h1 h2 hc;have e:zVQ m (P++[t]) o p=true:=by unfold zVQ; rw [zZY]; exact k1
 refine ⟨e,accS t.op.kno o.oper o.mode m p t.acc t.back,?_,?_⟩
 ·unfold zJ0;rw [if_pos e,zZY,zUg]
 ·refine ⟨by have:=h.ops; simpa using this,λu hu=>?_,h.opac⟩
  rcases List.mem_append.1 hu with hu | hu
  ·exact h.lv u (by simp [hu])
  ·rw [wQj.1 hu]; exact k2
theorem jQW {m:Int} {st:List Oq} {P:List Lv} {t:Lv} (h:StOk m st (P++[t])) {o:Oq} (hn:zZl o.oper=true):zJ0 m (P++[t]) o .zero=P++[t]:=by
 unfold zJ0;split
 ·rename_i hb;unfold zVQ at hb;rw [zZY] at hb;have ht:=h.lv t (by simp);rw [zZY,jUN hn ht.nn ht.kn hb,zUg]
 ·rfl
theorem zHL {m:Int} {bits:Int} {ms:List Im} {st:List Oq} {P:List Lv} {t:Lv} (hi:zJI m ms) (hb:zQo bits=m) (h:StOk m st (P++[t])) {o:Oq} (hk:o.kind=1) (h0:0<=o.opac) (he:errO bits ms.length o st=0) (x y:Int) :
  ∃ a,zJi m ms x y (P++[t]) o=P++[⟨t.op,a,t.back⟩]/\StOk m st (P++[⟨t.op,a,t.back⟩]):=by
 obtain ⟨_,_,_,f1,f2,f3,f4,_⟩:=zZn (.inl hk) he;have ⟨s1,s2⟩:=zUN hi o x y;have ⟨m1,m2⟩:=zUy hi o x y;obtain ⟨e,s3,s4⟩:=zKU (o:=o) hi.full s1 s2 m1 m2 h0 (by omega);obtain ⟨_,a,ha,hs⟩:=zUu h s3 s4 f2 f3 f4;refine ⟨a,?_,hs⟩;unfold zJi jVP;rw [if_pos hk,if_pos ⟨hk,by rw [e]⟩];exact ha
theorem zWF {m:Int} {bits:Int} {ms:List Im} {st:List Oq} {P:List Lv} {t:Lv} (hb:zQo bits=m) (h:StOk m st (P++[t])) {o:Oq} (hk:o.kind=2) (h0:0<=o.opac) (he:errO bits ms.length o st=0) (x y:Int) :
  zJi m ms x y (P++[t]) o=(P++[t])++[⟨o,(zZI o.iso t.op.kno t.acc t.back).1,(zZI o.iso t.op.kno t.acc t.back).2⟩]/\StOk m (st++[o]) ((P++[t])++[⟨o,(zZI o.iso t.op.kno t.acc t.back).1,(zZI o.iso t.op.kno t.acc t.back).2⟩]):=by
 obtain ⟨_,_,_,f1,f2,f3,f4,f5⟩:=zZn (.inr hk) he;have hl:=h.len;have f5:=f5 hk;constructor
 ·unfold zJi jVu;rw [if_neg (by omega),if_pos hk,if_pos ⟨hk,by omega⟩,zZY]
 ·refine ⟨?_,λu hu=>?_,λq hq=>?_⟩
  ·rw [wQ7,h.ops]; rfl
  ·rcases List.mem_append.1 hu with hu | hu
   ·exact h.lv u hu
   ·rw [wQj.1 hu]; exact jGP (h.lv t (by simp))
  ·rcases List.mem_append.1 hq with hq | hq
   ·exact h.opac q hq
   ·rw [wQj.1 hq]; omega
abbrev wYp:=@List.append_inj'
theorem StOk.pre {m:Int} {st:List Oq} {o:Oq} {L:List Lv} {u:Lv} (h:StOk m (st++[o]) (L++[u])):u.op=o/\StOk m st L:=by
 have e:=h.ops;rw [wQ7,wQg,wQk,show zZR.op::(st++[o])=(zZR.op::st)++[o] from rfl] at e;have ⟨e1,e2⟩:=wYp e rfl;refine ⟨by simpa using e2,e1,λt ht=>h.lv t (by simp [ht]),λq hq=>h.opac q (by simp [hq])⟩
theorem jX2 {m:Int} {ms:List Im} {st:List Oq} {o:Oq} {P:List Lv} {t u:Lv} (hi:zJI m ms) (h:StOk m (st++[o]) ((P++[t])++[u])) (h1:isNm o.oper=true) (h2:isNm o.mode=true) (hop:o.oper=4\/ctxB st=true) (x y:Int) :
  zJi m ms x y ((P++[t])++[u]) popO=zJ0 m (P++[t]) o (zZZ m o (zZ0 u.acc u.back m) (zX7 ms o x y)).1/\∃ a,zJ0 m (P++[t]) o (zZZ m o (zZ0 u.acc u.back m) (zX7 ms o x y)).1=P++[⟨t.op,a,t.back⟩]/\StOk m st (P++[⟨t.op,a,t.back⟩]):=by
 obtain ⟨eo,hs⟩:=h.pre;have hu:=h.lv u (by simp);have ⟨r1,r2⟩:=zGW hu;have ⟨m1,m2⟩:=zUy hi o x y;have ⟨o1,o2⟩:=h.opac o (by simp);obtain ⟨e,s3,s4⟩:=zKU (o:=o) hi.full r1 r2 m1 m2 o1 o2;obtain ⟨pb,a,ha,hs2⟩:=zUu hs s3 s4 h1 h2 hop;have rb:resB m u=true:=hu.ok;have rl:resL m u=zZ0 u.acc u.back m:=by unfold resL; rw [if_pos rb]
 refine ⟨?_,a,ha,hs2⟩;have k3:popO.kind=3:=rfl;unfold zJi popL;rw [if_neg (by rw [k3]; decide),if_neg (by rw [k3]; decide),if_pos k3,if_neg (by simp),zZY,eo,rl,if_neg (by rw [e]; simp),wZk,rb,pb];rfl
theorem zVn {m:Int} {bits:Int} {ms:List Im} (hi:zJI m ms) (hb:zQo bits=m) (x y:Int):∀ (f:Fo) (st:List Oq) (P:List Lv) (t:Lv),f.vf bits ms.length st->(∀ o∈f.flat,0<=o.opac)->StOk m st (P++[t]) ->
  ∃ a,runM m ms x y f.flat (P++[t])=P++[⟨t.op,a,t.back⟩]/\StOk m st (P++[⟨t.op,a,t.back⟩])
 | .nil,st,P,t,_,_,h=>⟨t.acc,rfl,h⟩
 | .draw o r,st,P,t,hv,ho,h=>by
  obtain ⟨a,e,h1⟩:=zHL hi hb h hv.1 (ho o (by simp [Fo.flat])) hv.2.1 x y;obtain ⟨b,e2,h2⟩:=zVn hi hb x y r st P _ hv.2.2 (λq hq=>ho q (by simp [Fo.flat,hq])) h1;exact ⟨b,by rw [Fo.flat,zZM,e,e2],h2⟩
 | .grp o k r,st,P,t,hv,ho,h=>by
  obtain ⟨h1,h2,h3,h4⟩:=hv;obtain ⟨e1,s1⟩:=zWF hb h h1 (ho o (by simp [Fo.flat])) h2 x y (ms:=ms);obtain ⟨b,e2,s2⟩:=zVn hi hb x y k (st++[o]) (P++[t]) _ h3 (λq hq=>ho q (by simp [Fo.flat,hq])) s1;obtain ⟨_,_,_,_,f2,f3,f4,_⟩:=zZn (.inr h1) h2;obtain ⟨e3,a,e4,s3⟩:=jX2 hi s2 f2 f3 f4 x y;obtain ⟨c,e5,s4⟩:=zVn hi hb x y r st P _ h4 (λq hq=>ho q (by simp [Fo.flat,hq])) s3;refine ⟨c,?_,s4⟩;rw [Fo.flat,zZM,e1,zYQ,e2,zZM,e3,e4,e5]
theorem jJ4 {m:Int} (hf:zZ1 m=true):StOk m [] ([]++[zZR]):=by
 have hm:=(zQ4 hf).1;refine ⟨rfl,λt ht=>?_,λo ho=>by simp at ho⟩;rw [List.nil_append] at ht;rw [wQj.1 ht];exact ⟨Ac.ok_iff.2 ⟨⟨by decide,by decide,by decide⟩,hf,⟨by decide,by decide,by show 0<=m; omega,by show 0<=m; omega⟩,(zKb (by omega)).1,rfl⟩,⟨by decide,by decide,by decide,by decide⟩,(zKb (m:=m) (by omega)).2,λ_ _=>rfl⟩
def exOk (ph q r d:Int):Bool:=decide (ph<4294967296)&&(decide (q<70368744177664)&&(decide (r<8589934592)&&decide (1<=d)))
def Ex.zero:Ex:=⟨0,0,0,0⟩
def blK (mode s a d b:Int):Bool:=isNm mode&&(decide (s<=a)&&decide (d<=b))
def blE (mode s a d b:Int):Ex:=if blK mode s a d b then zQi mode s a d b else .zero
def fcK (op a b m:Int):Bool:=isNm op&&(decide (a<=m)&&decide (b<=m))
def fcA (op a b m:Int):Int:=if fcK op a b m then facA op a b m else 0
def fcB (op a b m:Int):Int:=if fcK op a b m then facB op a b m else 0
def vlK (op mode m s a d b:Int):Bool:=blK mode s a d b&&(fcK op a b m&&zZ1 m)
def vlE (op mode m s a d b:Int):Ex:=if vlK op mode m s a d b then valS op mode m s a d b else .zero
def zWx (kno:Bool) (op mode m:Int) (p:Px) (x:Ac) (k:Px):Ac:=if zZ4 kno op mode m p x k then accS kno op mode m p x k else .zero
def resE (x:Ac) (k:Px) (m:Int):Px:=if x.ok k m then zZ0 x k m else .zero
def Ac.ds (x:Ac):List DV:=[.int .u16 x.a,.int .u16 x.b,.int .u16 x.c,.int .u16 x.al,.int .u16 x.own,.int .u16 x.f]
def Lv.cells (t:Lv):List DV:=t.op.cells++(t.acc.ds++t.back.ds)
theorem zUH {m:Int} (h:zZ1 m=true):m=255\/m=65535:=wQ2 h
theorem zWg {mode s a d b:Int} (h0:0<=s) (h1:s<=a) (h2:0<=d) (h3:d<=b) (ha:a<=65535) (hb:b<=65535) :
  let t:=zQi mode s a d b
  t.ok/\t.d<=4294836225/\t.p<=4294836225*4294836225/\t.q<=65535/\t.r<=4294836225:=by
 have hu:=zZk (mode:=mode) h0 h1 h2 h3;have small:∀ n:Int,(zZj n).d<=4294836225/\(zZj n).q<=65535/\(zZj n).r<=4294836225:=λn=>⟨by simp [zZj],by simp [zZj],by simp [zZj]⟩
 have mk:∀ p q r e:Int,e<=65535->q<=65535->r<=4294836225->(⟨p,q,r,e⟩:Ex).d<=4294836225/\(⟨p,q,r,e⟩:Ex).q<=65535/\(⟨p,q,r,e⟩:Ex).r<=4294836225:=λp q r e x y z=>⟨by simp only; omega,y,z⟩
 have db:=zQc h2 (show d<=65535 by omega) (show 0<=b by omega) hb;have bb:=zQc (show 0<=b by omega) hb (show 0<=b by omega) hb;have soft:(zJx s a d b).d<=4294836225/\(zJx s a d b).q<=65535/\(zJx s a d b).r<=4294836225:=by
  unfold zJx;split
  ·exact mk _ _ _ _ (by omega) (by omega) (by omega)
  split
  ·exact mk _ _ _ _ (by omega) (by omega) (by omega)
  split
  ·exact ⟨by simp only; omega,by simp only; omega,by simp only; omega⟩
  ·exact mk _ _ _ _ (by omega) (by omega) (by omega)
 have key:∀ (c:Prop) [Decidable c] (x y:Ex),(x.d<=4294836225/\x.q<=65535/\x.r<=4294836225)->(y.d<=4294836225/\y.q<=65535/\y.r<=4294836225)->((if c then x else y).d<=4294836225/\(if c then x else y).q<=65535/\(if c then x else y).r<=4294836225):=λc _ x y hx hy=>by split<;>assumption
 have all:(zQi mode s a d b).d<=4294836225/\(zQi mode s a d b).q<=65535/\(zQi mode s a d b).r<=4294836225:=by
  unfold zQi
  repeat' (first | exact small _ | exact soft | exact mk _ _ _ _ (by omega) (by omega) (by omega) | refine key _ _ _ ?_ ?_)
 have ab:=zQc (show 0<=a by omega) ha (show 0<=b by omega) hb;have pp:=zQc (x:=a*b) (y:=(zQi mode s a d b).d) (A:=4294836225) (B:=4294836225) ab.1 (by omega) (by have:=hu.ok.d; omega) all.1;have:=hu.p;exact ⟨hu.ok,all.1,by omega,all.2.1,all.2.2⟩
open Go.Proofs.Tryz (prog)
section
attribute [local irreducible] Ans AnsO AnsG AnsN AnsI
theorem jKu {w:World} {S:Nat->Prop} {x y c:Int} {vs:Array Value} (h:RepRs w S [RV.d (DV.int .u64 x),RV.d (DV.int .u64 y),RV.d (DV.int .u64 c)] vs.toList):vs=#[.int .u64 x,.int .u64 y,.int .u64 c]:=by
 obtain ⟨l⟩:=vs
 match l,h with
 | [a,b,d],h=>
  simp only [RepRs,RepR,RepD] at h;obtain ⟨h1,h2,h3,_⟩:=h;rw [h1.1,h2.1,h3.1]
theorem jYT (x y c:Int) (hx:0<=x/\x<18446744073709551616) (hy:0<=y/\y<18446744073709551616) (hc:0<=c/\c<=1):AnsE prog 286 [RV.d (DV.int .u64 x),RV.d (DV.int .u64 y),RV.d (DV.int .u64 c)] (RV.tup [RV.d (DV.int .u64 ((x+y+c)%18446744073709551616)),RV.d (DV.int .u64 ((x+y+c) / 18446744073709551616))]):=by
 intro w S vs h;rw [jKu h,run_callFunc_extern Tryz.func286 (by kernel_rfl) (by kernel_rfl) (by kernel_rfl) (e:=add64Entry) (by kernel_rfl),run_add64 x y c hx.1 hy.1 hc.1 hc.2];refine ⟨_,rfl,?_⟩;simp only [RepR,RepRs,RepD];have mi:IntKind.min .u64=0:=rfl;have ma:IntKind.max .u64=18446744073709551615:=rfl;exact ⟨_,rfl,⟨rfl,by rw [zZT,mi,ma]; omega⟩,⟨rfl,by rw [zZT,mi,ma]; omega⟩,trivial⟩
theorem jXD (x y c:Int) (hx:0<=x/\x<18446744073709551616) (hy:0<=y/\y<18446744073709551616) (hc:0<=c/\c<=1):AnsE prog 300 [RV.d (DV.int .u64 x),RV.d (DV.int .u64 y),RV.d (DV.int .u64 c)] (RV.tup [RV.d (DV.int .u64 ((x-y-c)%18446744073709551616)),RV.d (DV.int .u64 (if x<y+c then 1 else 0))]):=by
 intro w S vs h;obtain ⟨X,rfl⟩:=wQT hx.1;obtain ⟨Y,rfl⟩:=wQT hy.1;obtain ⟨Z,rfl⟩:=wQT hc.1;rw [jKu h,run_callFunc_extern Tryz.func300 (by kernel_rfl) (by kernel_rfl) (by kernel_rfl) (e:=sub64Entry) (by kernel_rfl),run_sub64 X Y Z (by omega)];refine ⟨_,rfl,?_⟩;simp only [RepR,RepRs,RepD];have e1:(((X+18446744073709551616-Y-Z)%18446744073709551616:Nat):Int)=((X:Int)-Y-Z)%18446744073709551616:=by omega
 have e2:((if X<Y+Z then 1 else 0:Nat):Int)=if (X:Int)<Y+Z then 1 else 0:=by split<;>split<;>omega
 have mi:IntKind.min .u64=0:=rfl;have ma:IntKind.max .u64=18446744073709551615:=rfl;exact ⟨_,rfl,⟨by rw [e1],by rw [zZT,mi,ma]; omega⟩,⟨by rw [e2],by rw [zZT,mi,ma]; split<;>omega⟩,trivial⟩
def gZ14:List RV->Option RV:=λ| [.d (.int _ n),.d (.int _ d)]=>some (RV.d (DV.int .u64 (zZb n d))) | _=>none
def gZ15:List RV->Option RV:=λ| [.d (.int _ a),.d (.int _ b)]=>some (RV.agg [DV.int .u64 (hiW (a*b)),DV.int .u64 (loW (a*b))]) | _=>none
def gZ16:List RV->Option RV:=λ| [.agg [.int _ ah,.int _ al],.agg [.int _ bh,.int _ bl]]=>some (rJ (cmpI (wV ah al) (wV bh bl))) | _=>none
def jUh:Gam:=yQK.add [.p 103 (λ| [.d (.int _ x),.d (.int _ y)]=>some (RV.tup [RV.d (DV.int .u64 (hiW (x*y))),RV.d (DV.int .u64 (loW (x*y)))]) | _=>none),
 .p 194 gZ14,
 .p 59 gZ15,
 .p 60 gZ16]
def cE (a:Int):DV:=DV.int IntKind.u64 a
def bH (a:Int):Int:=wrap IntKind.u64 a
def aR (a:Int):RV:=RV.d (cE a)
def dH (a b:Int):Int:=bH (a-b)
def bI (a:Int):RV:=aR (bH a)
abbrev wQd:=@IntWalk.u64_in
abbrev wYC:=@Int.ediv_lt_self_of_pos_of_ne_one
theorem zVj (n d:Int):Ans prog 194 [rD (DV.int .u64 n),rD (DV.int .u64 d)] (rD (DV.int .u64 (zZb n d))):=
 zQa (Γ:=jUh) aL zQb Tryz.func194 rfl (nL rfl) λhwf=>by
  refine Eq.mpr (by kernel_rfl:_=(let a:=aR (zZb n d);let b:=Int.tmod n d;let c:=dH d b;True/\True/\True/\((d==0)=true->True/\aR 0=a)/\cR (d==0) (d≠0) (aH (d≠0) (lY (jS b c (bX (bI (bH (Int.tdiv n d)+1)) a) (kX b c->True/\True/\bI (Int.tdiv n d)=a)))))) ?_;delta eS jS aH aK lY bX cR cE bH aR dH kX bI;simp only [sS];simp only [RV.wfs,RV.wf,DV.wf] at hwf;have m1:IntKind.min .u64=0:=rfl;have m2:IntKind.max .u64=18446744073709551615:=rfl;rw [m1,m2] at hwf;have t1:Int.tdiv n d=n / d:=wQS (by omega);have t2:Int.tmod n d=n%d:=wZO (by omega);refine ⟨λq=>by (have q:d=0:=(by simpa using q)); simp [zZb,q],λq=>?_⟩;have q:d≠0:=by simpa using q
  have b1:0<=n%d:=wQL _ q;have b2:n%d<d:=wQM _ (by omega);have b3:0<=n / d:=wQs (by omega) (by omega);have b4:n / d<=n:=wZw _ (by omega);simp only [t1,t2];rw [wQd (n / d) ⟨b3,by omega⟩,wQd (d-n%d) ⟨by omega,by omega⟩];refine ⟨q,q,λq2=>?_,λq2=>?_⟩
  ·have b5:d>=2\/d=1:=by omega
   have b6:n / d+1<=18446744073709551615:=by
    rcases b5 with b5 | b5
    ·have:n / d<n\/n=0:=by
      by_cases hn:n=0
      ·exact .inr hn
      ·exact .inl (wYC (by omega) (by omega))
     rcases this with h | h
     ·omega
     ·subst h; simp
    ·subst b5; omega
   rw [wQd _ ⟨by omega,b6⟩];simp [zZb,q]; omega
  ·simp [zZb,q]; omega
def bJ (a b:Int):Int:=bH (a*b)
def jI (a b:Int):Int:=Int.fdiv a (HPow.hPow (2:Int) (Min.min (Int.toNat b) (64:Nat)))
def jX (a:BitVec 64):Int:=bH (BitVec.toNat a:Int)
def aFM (a b:Int):BitVec 64:=HAnd.hAnd (BitVec.ofInt 64 a) (BitVec.ofInt 64 b)
def aGA (a b c d:RV):Prop:=RV.tup [a,b]=RV.tup [c,d]
def qI (a b c:Int):Int:=bH (bJ a b+c)
def aEJ (a:Int):BitVec 64:=aFM a 4294967295
abbrev wZl:=@IntKind.wrap_u64
theorem zXS (x y:Int):Ans prog 103 [rD (DV.int .u64 x),rD (DV.int .u64 y)] (rT [rD (DV.int .u64 (hiW (x*y))),rD (DV.int .u64 (loW (x*y)))]):=
 zQa (Γ:=jUh) aL zQb Tryz.func103 rfl (nL rfl) λhwf=>by
  refine Eq.mpr (by kernel_rfl:_=(let b:=bH (BitVec.toNat (aEJ x):Int);let c:=qI (jI x 32) (jX (aEJ y)) (jI (bJ b (jX (aEJ y))) 32);let a:=(0:Int)<=32;bS (aM a (aH a (aG (aM a (bV a (aG (dN a (aGA (bI (qI (jI x 32) (jI y 32) (jI c 32)+jI (bH (jX (aEJ c)+bJ b (jI y 32))) 32)) (bI (x*y)) (aR (hiW (x*y))) (aR (loW (x*y))))))))))))) ?_;delta eS aG aH aK aM dN bV bS cE bH aR bJ jI jX aFM bI aGA qI aEJ;simp only [sS,zVj];simp only [RV.wfs,RV.wf,DV.wf,DV.wfs] at hwf;have mi:IntKind.min .u64=0:=rfl;have ma:IntKind.max .u64=18446744073709551615:=rfl;have mj:IntKind.min .u16=0:=rfl;have mb:IntKind.max .u16=65535:=rfl;simp only [mi,ma,mj,mb] at hwf;obtain ⟨hx,hy,_⟩:=hwf;have wr:∀ a:Int,0<=a->a<18446744073709551616->wrap .u64 a=a:=λa h1 h2=>wQd a ⟨h1,by omega⟩;have f32:∀ a:Int,0<=a->Int.fdiv a (2 ^ min (Int.toNat 32) 64)=a / 4294967296:=λa ha=>by
   rw [show ((2:Int) ^ min (Int.toNat 32) 64)=4294967296 from by decide];exact wQU _ (by omega)
  have ex:x=x / 4294967296*4294967296+x%4294967296:=by omega
  have ey:y=y / 4294967296*4294967296+y%4294967296:=by omega
  have bx:0<=x / 4294967296/\x / 4294967296<=4294967295/\0<=x%4294967296/\x%4294967296<=4294967295:=by omega
  have by_:0<=y / 4294967296/\y / 4294967296<=4294967295/\0<=y%4294967296/\y%4294967296<=4294967295:=by omega
  simp only [zW6 hx.1 (by omega),zW6 hy.1 (by omega),f32 x hx.1,f32 y hy.1];have exy:x*y=(x / 4294967296)*(y / 4294967296)*18446744073709551616+((x / 4294967296)*(y%4294967296)+(x%4294967296)*(y / 4294967296))*4294967296+(x%4294967296)*(y%4294967296):=by
   generalize x / 4294967296=x1 at *;generalize x%4294967296=x0 at *;generalize y / 4294967296=y1 at *;generalize y%4294967296=y0 at *;subst ex ey;grind
  rw [exy];clear exy ex ey;generalize x / 4294967296=x1 at *;generalize x%4294967296=x0 at *;generalize y / 4294967296=y1 at *;generalize y%4294967296=y0 at *;obtain ⟨p1,p2,p3,p4⟩:=bx;obtain ⟨q1,q2,q3,q4⟩:=by_;have m11:=zQc p1 p2 q1 q2;have m10:=zQc p1 p2 q3 q4;have m01:=zQc p3 p4 q1 q2;have m00:=zQc p3 p4 q3 q4;rw [wr x0 (by omega) (by omega),wr y0 (by omega) (by omega)];generalize x1*y1=A at *;generalize x1*y0=B at *;generalize x0*y1=C at *;generalize x0*y0=D at *;rw [wr D (by omega) (by omega),f32 D (by omega),wr B (by omega) (by omega),wr (B+D / 4294967296) (by omega) (by omega),zW6 (n:=B+D / 4294967296) (by omega) (by omega),wr ((B+D / 4294967296)%4294967296) (by omega) (by omega),wr C (by omega) (by omega),wr ((B+D / 4294967296)%4294967296+C) (by omega) (by omega),f32 (B+D / 4294967296) (by omega),f32 ((B+D / 4294967296)%4294967296+C) (by omega),wr A (by omega) (by omega),wr (A+(B+D / 4294967296) / 4294967296) (by omega) (by omega),wr (A+(B+D / 4294967296) / 4294967296+_) (by omega) (by omega)];unfold hiW loW;rw [wZl];constructor<;>omega
def gH (a b:Int):List DV:=[cE a,cE b]
def cX (a:Int):List DV:=gH (hiW a) (loW a)
def jY (a:Int):RV:=RV.agg (cX a)
def eY (a:Int):List RV:=[aR a]
def uB (a:FuncId) (b:Int) (c:List RV) (d:RV):Prop:=Ans prog a (aR b::c) d
def uA (a b:Int):RV:=RV.tup [aR a,aR b]
theorem zWl (a b:Int):Ans prog 59 [rD (DV.int .u64 a),rD (DV.int .u64 b)] (rA [DV.int .u64 (hiW (a*b)),DV.int .u64 (loW (a*b))]):=
 zQa (Γ:=jUh) aL zQb Tryz.func59 rfl (nL rfl) λhwf=>by
  refine Eq.mpr (by kernel_rfl:_=(True/\aH (uB 103 a (eY b) (uA (hiW (a*b)) (loW (a*b)))) (aG (eS (jY (a*b)))))) ?_;delta eS aG aH cE aR gH cX jY eY uB uA;simp only [sS,zVj,zXS]
def wI (a b:Int):RV:=RV.d (DV.int IntKind.i64 (cmpI a b))
theorem zH8 (ah al bh bl:Int):Ans prog 60 [rA [DV.int .u64 ah,DV.int .u64 al],rA [DV.int .u64 bh,DV.int .u64 bl]] (rJ ((cmpI (wV ah al) (wV bh bl)))):=
 zQa (Γ:=jUh) aL zQb Tryz.func60 rfl (nL rfl) λhwf=>by
  refine Eq.mpr (by kernel_rfl:_=(let a:=cmpI (wV ah al) (wV bh bl);let b:=cA 1 a;True/\True/\True/\True/\mO (pS (ah==bh) (al==bl) true) (cA 0 a) (dP (fV ah bh (True/\True/\True/\True/\True/\((ah==bh)=true->True/\iV (pK al bl (cA (-1) a)) (fV al bl b))/\fP (ah==bh) true b)) (mN ah bh false->eZ (aAV (-1) (wI (wV ah al) (wV bh bl))))))) ?_;delta eS mN cA kD pK iV dP eZ fV pS fP mO wI aAV;simp only [sS,zVj,zXS,zWl];simp only [RV.wfs,RV.wf,DV.wf,DV.wfs] at hwf;have mi:IntKind.min .u64=0:=rfl;have ma:IntKind.max .u64=18446744073709551615:=rfl;have mj:IntKind.min .u16=0:=rfl;have mb:IntKind.max .u16=65535:=rfl;simp only [mi,ma,mj,mb] at hwf;unfold cmpI wV;grind
end
theorem yQh {n:Int} (h0:0<=n) (h1:n<4294967296):((BitVec.ofInt 32 n &&& BitVec.ofInt 32 255).toNat:Int)=n%256:=by
 obtain ⟨k,rfl⟩:=wQT h0;have hk:k<4294967296:=by omega
 have e1:BitVec.ofInt 32 (k:Int)=BitVec.ofNat 32 k:=by simp
 have e2:BitVec.ofInt 32 255=BitVec.ofNat 32 255:=by decide
 rw [e1,e2,wXU,wZa,wZa,wQX hk];have:k &&& 255=k%256:=wYl k 8;rw [show 255%2 ^ 32=255 from rfl,this];omega
theorem jGT {n:Int} (h0:0<=n) (h1:n<18446744073709551616):((BitVec.ofInt 64 n &&& BitVec.ofInt 64 65535).toNat:Int)=n%65536:=by
 obtain ⟨k,rfl⟩:=wQT h0;have hk:k<18446744073709551616:=by omega
 have e1:BitVec.ofInt 64 (k:Int)=BitVec.ofNat 64 k:=by simp
 have e2:BitVec.ofInt 64 65535=BitVec.ofNat 64 65535:=by decide
 rw [e1,e2,wXU,wZa,wZa,wQX hk];have:k &&& 65535=k%65536:=wYl k 16;rw [show 65535%2 ^ 64=65535 from rfl,this];omega
theorem jUc {q r:Int} (h0:0<=r) (h1:r<=255):zZb (q*255+r) 255=if 128<=r then q+1 else q:=by
 rw [zJt (by decide)];split<;>omega
theorem jYt {q r:Int} (h0:0<=r) (h1:r<=65535):zZb (q*65535+r) 65535=if 32768<=r then q+1 else q:=by
 rw [zJt (by decide)];split<;>omega
abbrev wYq:=@Nat.pow_lt_pow_right
abbrev wYD:=@Nat.two_pow_add_eq_or_of_lt
abbrev wZ9:=@Nat.two_pow_pos
theorem jU9 {m i:Nat} (hi:i<64) (h:(m+1)*2 ^ (i+1)<=2 ^ 64):(BitVec.ofInt 64 ((m*2 ^ (i+1):Nat):Int) ||| BitVec.ofInt 64 ((2 ^ i:Nat):Int)).toNat=m*2 ^ (i+1)+2 ^ i:=by
 have p0:2 ^ i<2 ^ 64:=wYq (by decide) (by omega);have p1:m*2 ^ (i+1)<2 ^ 64:=by
  have:=wZ9 (i+1);rw [wQn] at h;omega
 have e1:∀ k:Nat,BitVec.ofInt 64 (k:Int)=BitVec.ofNat 64 k:=λk=>by simp
 rw [e1,e1,BitVec.toNat_or,wZa,wZa,wQX p0,wQX p1];have:=wYD (i:=i+1) (b:=2 ^ i) (wYq (by decide) (by omega)) m;rw [wQI];exact this.symm
abbrev wXa:=@Nat.pow_add
theorem jJ3 {f k:Nat} (hf:f<2 ^ 64) (hk:k<64) :
  (BitVec.ofInt 64 ((f / 2 ^ (k+1)*2 ^ (k+1):Nat):Int) ||| BitVec.ofInt 64 ((2 ^ k:Nat):Int)).toNat=f / 2 ^ (k+1)*2 ^ (k+1)+2 ^ k/\f / 2 ^ (k+1)*2 ^ (k+1)+2 ^ k<2 ^ 64 /\
  (f / 2 ^ (k+1)*2 ^ (k+1)+2 ^ k<=f->f / 2 ^ k*2 ^ k=f / 2 ^ (k+1)*2 ^ (k+1)+2 ^ k)/\(f<f / 2 ^ (k+1)*2 ^ (k+1)+2 ^ k->f / 2 ^ k*2 ^ k=f / 2 ^ (k+1)*2 ^ (k+1)):=by
 have p:=wZ9 k;have e2:2 ^ (k+1)=2 ^ k*2:=Nat.pow_succ 2 k;have h64:(f / 2 ^ (k+1)+1)*2 ^ (k+1)<=2 ^ 64:=by
  have e:2 ^ 64=2 ^ (63-k)*2 ^ (k+1):=by rw [<- wXa]; congr 1; omega
  rw [e] at hf |-;exact wQR _ ((wYg (wZ9 _)).2 hf)
 have hlt:f / 2 ^ (k+1)*2 ^ (k+1)+2 ^ k<2 ^ 64:=by
  rw [wQn,wXz] at h64;omega
 refine ⟨jU9 hk h64,hlt,?_⟩;clear hlt h64;rw [e2,<- Nat.div_div_eq_div_mul];have h1:=wZQ f (2 ^ k);have h2:=wZr f p;have h3:=wZQ (f / 2 ^ k) 2;have h4:=wZr (f / 2 ^ k) (show 0<2 by decide);generalize f / 2 ^ k=g at *;generalize f%2 ^ k=r at *;generalize 2 ^ k=P at *;have e5:g / 2*(P*2)=P*(g / 2)*2:=by grind
 rcases Nat.mod_two_eq_zero_or_one g with h | h
 ·have hg:g=2*(g / 2):=by omega
  have e6:g*P=P*(g / 2)*2:=by rw [hg]; grind
  have e7:P*g=g*P:=wQI _ _;rw [e5,e6];constructor<;>intro q<;>omega
 ·have hg:g=2*(g / 2)+1:=by omega
  have e6:g*P=P*(g / 2)*2+P:=by
   generalize g / 2=c at *;subst hg; grind
  have e7:P*g=g*P:=wQI _ _;rw [e5,e6];constructor<;>intro q<;>omega
structure DgOk (v1 v0 u w q r:Int):Prop where
  hr:r=u-q*v1
  lo:(u*4294967296+w) / (v1*4294967296+v0)<=q
  hi:q<=4294967297
  r0:0<=r
  r1:r<4294967296
structure DvOk (v1 v0 u w:Int):Prop where
  a0:2147483648<=v1
  a1:v1<4294967296
  b0:0<=v0
  b1:v0<4294967296
  u0:0<=u
  u1:u<v1*4294967296+v0
  w0:0<=w
  w1:w<4294967296
abbrev wZV:=@Int.ediv_lt_of_lt_mul
theorem DvOk.dig {v1 v0 u w:Int} (h:DvOk v1 v0 u w):0<=(u*4294967296+w) / (v1*4294967296+v0)/\(u*4294967296+w) / (v1*4294967296+v0)<4294967296:=by
 obtain ⟨a0,a1,b0,b1,u0,u1,w0,w1⟩:=h;refine ⟨wQs (by omega) (by omega),wZV (by omega) (by omega)⟩
theorem DvOk.start {v1 v0 u w:Int} (h:DvOk v1 v0 u w):DgOk v1 v0 u w (u / v1) (u-u / v1*v1):=by
 obtain ⟨a0,a1,b0,b1,u0,u1,w0,w1⟩:=h;have e1:=wZh u v1;have e2:=wQL u (b:=v1) (by omega);have e3:=wQM u (show 0<v1 by omega);have e4:u / v1*v1=v1*(u / v1):=wQy _ _;refine ⟨rfl,?_,?_,by omega,by omega⟩
 ·apply Int.le_of_lt_add_one;apply wZV (by omega);generalize u / v1=q at *;generalize u%v1=r at *;have hq:0<=q:=by
   apply Int.not_lt.1;intro hlt;have:v1*q<=v1*(-1):=Int.mul_le_mul_of_nonneg_left (by omega) (by omega);omega
  have:0<=q*v0:=Int.mul_nonneg hq b0;have e5:(q+1)*(v1*4294967296+v0)=v1*q*4294967296+v1*4294967296+q*v0+v0:=by grind
  rw [e5];omega
 ·apply Int.le_of_lt_add_one;apply wZV (by omega);omega
theorem DgOk.over {v1 v0 u w q r:Int} (hv:DvOk v1 v0 u w) (h:DgOk v1 v0 u w q r):(q*v0>4294967296*r+w↔(u*4294967296+w) / (v1*4294967296+v0)<q):=by
 obtain ⟨a0,a1,b0,b1,u0,u1,w0,w1⟩:=hv;have e:=h.hr;rw [Int.ediv_lt_iff_lt_mul (by omega)];have:q*(v1*4294967296+v0)=q*v1*4294967296+q*v0:=by grind
 rw [this];generalize q*v1=A at *;generalize q*v0=B at *;omega
theorem DgOk.pos {v1 v0 u w q r:Int} (hv:DvOk v1 v0 u w) (h:DgOk v1 v0 u w q r):0<=q:=by
 have:=hv.dig.1;have:=h.lo;omega
theorem DgOk.sizes {v1 v0 u w q r:Int} (hv:DvOk v1 v0 u w) (h:DgOk v1 v0 u w q r):0<=q*v0/\q*v0<18446744073709551616/\0<=4294967296*r+w/\4294967296*r+w<18446744073709551616:=by
 have hq:=h.pos hv;have h1:=h.hi;have h2:=h.r0;have h3:=h.r1;have:=zQc hq h1 hv.b0 (show v0<=4294967295 by have:=hv.b1; omega);have:=hv.w0;have:=hv.w1;omega
theorem DgOk.next {v1 v0 u w q r:Int} (hv:DvOk v1 v0 u w) (h:DgOk v1 v0 u w q r) (hc:q>=4294967296\/q*v0>4294967296*r+w) (hr:r+v1<4294967296):DgOk v1 v0 u w (q-1) (r+v1):=by
 have hd:=hv.dig;have ho:=h.over hv;have hl:=h.lo;have hh:=h.hi;have hr0:=h.r0;have a0:=hv.a0;refine ⟨by have:=h.hr; grind,?_,by omega,by omega,hr⟩
 rcases hc with hc | hc
 ·omega
 ·have:=ho.1 hc;omega
theorem DgOk.done {v1 v0 u w q r:Int} (hv:DvOk v1 v0 u w) (h:DgOk v1 v0 u w q r) (hc:¬ (q>=4294967296\/q*v0>4294967296*r+w)):q=(u*4294967296+w) / (v1*4294967296+v0):=by
 have ho:=h.over hv;have hl:=h.lo;have:=λh=>hc (.inr (ho.2 h));omega
theorem DgOk.last {v1 v0 u w q r:Int} (hv:DvOk v1 v0 u w) (h:DgOk v1 v0 u w q r) (hc:q>=4294967296\/q*v0>4294967296*r+w) (hr:r+v1>=4294967296):q-1=(u*4294967296+w) / (v1*4294967296+v0):=by
 have hd:=hv.dig;have ho:=h.over hv;have hl:=h.lo;have hh:=h.hi;have hq:=h.pos hv;have h1:(u*4294967296+w) / (v1*4294967296+v0)<=q-1:=by
  rcases hc with hc | hc
  ·omega
  ·have:=ho.1 hc;omega
 have h2:q-1<=(u*4294967296+w) / (v1*4294967296+v0):=by
  rw [wX3 (by have:=hv.a0; have:=hv.b0; omega)];have e:=h.hr;have e1:(q-1)*(v1*4294967296+v0)=(q*v1-v1)*4294967296+(q-1)*v0:=by grind
  rw [e1];have:=zQc (x:=q-1) (A:=4294967296) (y:=v0) (B:=4294967295) (by omega) (by omega) hv.b0 (by have:=hv.b1; omega);have:=hv.w0;generalize q*v1=A at *;generalize (q-1)*v0=B at *;omega
 omega
abbrev wXW:=@Int.add_mul_ediv_left
theorem jVe {v u a b:Int} (hv:0<v) :
  (u*4294967296+a) / v*4294967296+(((u*4294967296+a)-(u*4294967296+a) / v*v)*4294967296+b) / v=(u*18446744073709551616+a*4294967296+b) / v /\
  ((u*4294967296+a)-(u*4294967296+a) / v*v)*4294967296+b-(((u*4294967296+a)-(u*4294967296+a) / v*v)*4294967296+b) / v*v=(u*18446744073709551616+a*4294967296+b)%v:=by
 have e:u*18446744073709551616+a*4294967296+b=((u*4294967296+a)-(u*4294967296+a) / v*v)*4294967296+b+v*((u*4294967296+a) / v*4294967296):=by grind
 have e2:∀ x:Int,x-x / v*v=x%v:=λx=>by rw [Int.emod_def,wQy]
 rw [e,wXW _ _ (by omega),wXM];refine ⟨by omega,e2 _⟩
theorem jVk {a y k:Int} (hk:0<k):(a*k) / (y*k)=a / y/\(a*k)%(y*k) / k=a%y:=by
 refine ⟨Int.mul_ediv_mul_of_pos_left _ _ hk,?_⟩;rw [Int.emod_def,Int.mul_ediv_mul_of_pos_left _ _ hk,Int.emod_def,show a*k-y*k*(a / y)=(a-y*(a / y))*k by grind,Int.mul_ediv_cancel _ (by omega)]
def lenS (x:Int):Int:=if x<=0 then 0 else (Nat.log2 x.toNat:Int)+1
theorem jYe {y:Int} (h0:1<=y) (h1:y<18446744073709551616):∃ s:Nat,64-lenS y=s/\s<=63/\9223372036854775808<=y*2 ^ s/\y*2 ^ s<18446744073709551616:=by
 obtain ⟨n,rfl⟩:=wQT (show 0<=y by omega);have hn:n≠0:=by omega
 have a1:=Nat.log2_self_le hn;have a2:=@Nat.lt_log2_self n;have a3:n.log2<64:=(Nat.log2_lt hn).2 (by omega);refine ⟨63-n.log2,?_,by omega,?_,?_⟩
 ·unfold lenS;rw [if_neg (by omega),wQl];omega
 ·have e:2 ^ n.log2*2 ^ (63-n.log2)=2 ^ 63:=by rw [<- wXa]; congr 1; omega
  have:2 ^ n.log2*2 ^ (63-n.log2)<=n*2 ^ (63-n.log2):=wQR _ a1;rw [e] at this;have h:((2 ^ 63:Nat):Int)<=((n*2 ^ (63-n.log2):Nat):Int):=by exact_mod_cast this
  simpa using h
 ·have e:2 ^ (n.log2+1)*2 ^ (63-n.log2)=2 ^ 64:=by rw [<- wXa]; congr 1; omega
  have:n*2 ^ (63-n.log2)<2 ^ (n.log2+1)*2 ^ (63-n.log2):=Nat.mul_lt_mul_of_pos_right a2 (wZ9 _);rw [e] at this;have h:((n*2 ^ (63-n.log2):Nat):Int)<((2 ^ 64:Nat):Int):=by exact_mod_cast this
  simpa using h
abbrev wQB:=@Int.pow_pos
theorem zUz {x:Int} (k:Nat) (h:2 ^ k<=x):lenS x=k+lenS (x / 2 ^ k):=by
 have hp:(0:Int)<2 ^ k:=wQB (by decide);obtain ⟨n,rfl⟩:=wQT (show 0<=x by omega);have h':2 ^ k<=n:=by exact_mod_cast h
 have hp':=wZ9 k;have hn:n≠0:=by omega
 have hq:n / 2 ^ k≠0:=by
  have:=Nat.div_pos h' hp';omega
 have e:((n:Int) / 2 ^ k)=((n / 2 ^ k:Nat):Int):=by simp
 rw [e];have hq2:¬ ((n / 2 ^ k:Nat):Int)<=0:=Int.not_le.2 (Int.natCast_pos.2 (Nat.pos_of_ne_zero hq));unfold lenS;rw [if_neg (by omega),if_neg hq2,wQl,wQl];have a1:=Nat.log2_self_le hq;have a2:=@Nat.lt_log2_self (n / 2 ^ k);have:n.log2=(n / 2 ^ k).log2+k:=by
  rw [Nat.log2_eq_iff hn];refine ⟨?_,?_⟩
  ·rw [wXa];exact wQC (wQR _ a1) (Nat.div_mul_le_self _ _)
  ·rw [show (n / 2 ^ k).log2+k+1=((n / 2 ^ k).log2+1)+k by omega,wXa];exact (wYg hp').1 a2
 omega
def orI:List DV->Int
 | .int _ a::l=>if a=0 then orI l else a
 | _=>0
theorem yQ3 {a b c d:Int} (h0:0<=b) (h1:b<18446744073709551616) (h2:0<=d) (h3:d<18446744073709551616) (k k':IntKind):orI [.int k (cmpI a c),.int k' (cmpI b d)]=cmpI (wV a b) (wV c d):=by
 unfold orI orI orI cmpI wV;grind
structure Dv where
  v1:Int
  v0:Int
  u:Int
  w1:Int
  w0:Int
  s:Nat
structure Dv.is (D:Dv) (hi lo y:Int):Prop where
  v:y*2 ^ D.s=D.v1*4294967296+D.v0
  n:wV hi lo*2 ^ D.s=D.u*18446744073709551616+D.w1*4294967296+D.w0
  ok:DvOk D.v1 D.v0 D.u D.w1
  a:0<=D.w0
  b:D.w0<4294967296
  s63:D.s<=63
theorem jKC {s:Nat} {a b:Int} (hs:s<=64) (ha:0<=a) (h:a*2 ^ s<18446744073709551616) (hb:0<=b) (h1:b<2 ^ s):((BitVec.ofInt 64 (a*2 ^ s) ||| BitVec.ofInt 64 b).toNat:Int)=a*2 ^ s+b/\a*2 ^ s+b<18446744073709551616:=by
 obtain ⟨m,rfl⟩:=wQT ha;obtain ⟨n,rfl⟩:=wQT hb;have e:(m:Int)*2 ^ s=((m*2 ^ s:Nat):Int):=by simp
 rw [e] at h |-;have h1:n<2 ^ s:=by exact_mod_cast h1
 have h2:m*2 ^ s<2 ^ 64:=by
  have:((m*2 ^ s:Nat):Int)<((2 ^ 64:Nat):Int):=by simpa using h
  exact_mod_cast this
 have h4:m*2 ^ s+n<2 ^ 64:=by
  have e2:2 ^ 64=2 ^ (64-s)*2 ^ s:=by rw [<- wXa]; congr 1; omega
  rw [e2] at h2 |-;have h3:m<2 ^ (64-s):=Nat.lt_of_mul_lt_mul_right h2;have:(m+1)*2 ^ s<=2 ^ (64-s)*2 ^ s:=wQR _ h3;rw [wQn] at this;omega
 have e1:∀ k:Nat,BitVec.ofInt 64 (k:Int)=BitVec.ofNat 64 k:=λk=>by simp
 rw [e1,e1,BitVec.toNat_or,wZa,wZa,wQX h2,wQX (show n<2 ^ 64 by omega)];have:=wYD (i:=s) (b:=n) h1 m;rw [wQI m,<- this,wQI];have h4:((m*2 ^ s+n:Nat):Int)<((2 ^ 64:Nat):Int):=by exact_mod_cast h4
 refine ⟨by simp,by simpa using h4⟩
abbrev wXA:=@Int.pow_add
theorem jGH {hi lo y:Int} {s:Nat} (h0:0<=hi) (h1:hi<y) (l0:0<=lo) (l1:lo<18446744073709551616) (hs:s<=63) (y1:9223372036854775808<=y*2 ^ s) (y2:y*2 ^ s<18446744073709551616) :
  0<=lo / 2 ^ (64-s)/\lo / 2 ^ (64-s)<2 ^ s/\hi*2 ^ s<18446744073709551616/\0<=lo*2 ^ s /\
  Dv.is ⟨y*2 ^ s / 4294967296,y*2 ^ s%4294967296,hi*2 ^ s+lo / 2 ^ (64-s),lo*2 ^ s%18446744073709551616 / 4294967296,lo*2 ^ s%18446744073709551616%4294967296,s⟩ hi lo y:=by
 have hp:(0:Int)<2 ^ s:=wQB (by decide);have hq:(0:Int)<2 ^ (64-s):=wQB (by decide);have e:(2:Int) ^ (64-s)*2 ^ s=18446744073709551616:=by
  rw [<- wXA,show 64-s+s=64 by omega]; rfl
 have b1:lo / 2 ^ (64-s)<2 ^ s:=wZV hq (by rw [wQy,e]; exact l1);have b0:0<=lo / 2 ^ (64-s):=wQs l0 (by omega);have c1:lo*2 ^ s / 18446744073709551616=lo / 2 ^ (64-s):=by rw [<- e]; exact Int.mul_ediv_mul_of_pos_left _ _ hp
 have c2:=wZh (lo*2 ^ s) 18446744073709551616;rw [c1] at c2;have l2:0<=lo*2 ^ s:=Int.mul_nonneg l0 (by omega);have m1:hi*2 ^ s+2 ^ s<=y*2 ^ s:=by
  have:(hi+1)*2 ^ s<=y*2 ^ s:=Int.mul_le_mul_of_nonneg_right (by omega) (by omega);rw [wZ6,wZB] at this;exact this
 have m0:0<=hi*2 ^ s:=Int.mul_nonneg h0 (by omega);have nn:wV hi lo*2 ^ s=hi*2 ^ s*18446744073709551616+lo*2 ^ s:=by unfold wV; grind
 refine ⟨b0,b1,by omega,l2,⟨by simp only; omega,?_,⟨by simp only; omega,by simp only; omega,by simp only; omega,by simp only; omega,by simp only; omega,by simp only; omega,by simp only; omega,by simp only; omega⟩,by simp only; omega,by simp only; omega,hs⟩⟩;simp only;rw [nn];generalize lo / 2 ^ (64-s)=L at *;generalize lo*2 ^ s=X at *;generalize hi*2 ^ s=H at *;omega
theorem jGs {M d:Int} (hd:1<=d) (hM:0<=M):(2*(M / 2%d)+M%2>=d->M%d=2*(M / 2%d)+M%2-d/\M / d=2*(M / 2 / d)+1)/\(2*(M / 2%d)+M%2<d->M%d=2*(M / 2%d)+M%2/\M / d=2*(M / 2 / d)):=by
 have h1:=wZh (M / 2) d;have h2:0<=M / 2%d:=wQL _ (by omega);have h3:M / 2%d<d:=wQM _ (by omega);have h4:M=2*(M / 2)+M%2:=by omega
 generalize M / 2%d=r at *;generalize M / 2 / d=q at *;have key:∀ Q R:Int,0<=R->R<d->M=R+d*Q->M%d=R/\M / d=Q:=λQ R r0 r1 e=>by
  rw [e,wXM,wYh r0 r1,wXW _ _ (by omega:d≠0),Int.ediv_eq_zero_of_lt r0 r1];exact ⟨rfl,by omega⟩
 refine ⟨λh=>key _ _ (by omega) (by omega) ?_,λh=>key _ _ (by omega) h ?_⟩
 ·have:d*(2*q+1)=2*(d*q)+d:=by grind
  omega
 ·have:d*(2*q)=2*(d*q):=by grind
  omega
def dvP (N:Int) (k:Nat):Int:=N / 2 ^ (128-k)
def dvQ (N d:Int) (k:Nat):Int:=dvP N k / d*2 ^ (128-k)
theorem jGJ {N:Int} (h0:0<=N) (h1:N<340282366920938463463374607431768211456):dvP N 0=0:=by
 unfold dvP; exact Int.ediv_eq_zero_of_lt h0 (by simpa using h1)
theorem jH7 (N:Int):dvP N 128=N:=by unfold dvP; simp
abbrev wYE:=@Int.ediv_ediv_of_nonneg
abbrev wZm:=@Int.le_of_lt
theorem jK3 {N:Int} {k:Nat} (hk:k<128):dvP N k=dvP N (k+1) / 2:=by
 unfold dvP;have:128-k=(128-(k+1))+1:=by omega
 rw [this,Int.pow_succ,wYE (wZm (wQB (by decide)))]
theorem jH5 {N d:Int} {k i:Nat} (hi:i+k=127) (h0:0<=N) (hd:1<=d) :
  (2*(dvP N k%d)+N / 2 ^ i%2>=d->dvP N (k+1)%d=2*(dvP N k%d)+N / 2 ^ i%2-d/\dvQ N d (k+1)=dvQ N d k+2 ^ i)
  /\ (2*(dvP N k%d)+N / 2 ^ i%2<d->dvP N (k+1)%d=2*(dvP N k%d)+N / 2 ^ i%2/\dvQ N d (k+1)=dvQ N d k):=by
 have e1:N / 2 ^ i=dvP N (k+1):=by unfold dvP; rw [show 128-(k+1)=i by omega]
 have hM:0<=dvP N (k+1):=by unfold dvP; exact wQs h0 (wZm (wQB (by decide)))
 have hd2:=jGs hd hM;have e2:(2:Int) ^ (128-k)=2*2 ^ i:=by rw [show 128-k=i+1 by omega,Int.pow_succ]; omega
 have e3:(2:Int) ^ (128-(k+1))=2 ^ i:=by rw [show 128-(k+1)=i by omega]
 rw [e1,jK3 (N:=N) (show k<128 by omega)];unfold dvQ;rw [e2,e3,jK3 (N:=N) (show k<128 by omega)];refine ⟨λh=>?_,λh=>?_⟩
 ·obtain ⟨a,b⟩:=hd2.1 h;exact ⟨a,by rw [b]; generalize (2:Int) ^ i=w; generalize dvP N (k+1) / 2 / d=z; grind⟩
 ·obtain ⟨a,b⟩:=hd2.2 h;exact ⟨a,by rw [b]; generalize (2:Int) ^ i=w; generalize dvP N (k+1) / 2 / d=z; grind⟩
theorem jGI {N d:Int} (h0:0<=N) (h1:N<340282366920938463463374607431768211456):dvQ N d 0=0:=by
 unfold dvQ dvP; rw [Int.ediv_eq_zero_of_lt h0 (by simpa using h1)]; simp
theorem jH6 (N d:Int):dvQ N d 128=N / d:=by unfold dvQ dvP; simp
theorem yQ2 {N d:Int} (k:Nat) (h0:0<=N) (h1:N<340282366920938463463374607431768211456) (hd:1<=d):0<=dvP N k / d/\dvP N k / d*2 ^ (128-k)<340282366920938463463374607431768211456:=by
 have hp:(0:Int)<2 ^ (128-k):=wQB (by decide);have a:0<=dvP N k:=by unfold dvP; exact wQs h0 (by omega)
 have b:=wZw d a;have c:dvP N k*2 ^ (128-k)<=N:=Int.ediv_mul_le N (by omega);have e:=Int.mul_le_mul_of_nonneg_right b (wZm hp);exact ⟨wQs a (by omega),by omega⟩
theorem jHz (n:Nat):(2:Int) ^ (n+64)=2 ^ n*18446744073709551616:=by rw [wXA]; rfl
theorem yZe {A:Int} {j:Nat} (hA:0<=A) (h:A*2 ^ (j+64+1)<340282366920938463463374607431768211456) (hj:j<=63) :
  hiW (A*2 ^ (j+64+1)+2 ^ (j+64))=((BitVec.ofInt 64 (hiW (A*2 ^ (j+64+1))) ||| BitVec.ofInt 64 (2 ^ j)).toNat:Int)/\loW (A*2 ^ (j+64+1)+2 ^ (j+64))=0/\loW (A*2 ^ (j+64+1))=0:=by
 have e1:A*2 ^ (j+64+1)=(A*2 ^ (j+1))*18446744073709551616:=by rw [show j+64+1=(j+1)+64 by omega,jHz]; grind
 rw [e1] at h |-;rw [jHz];have hp:(0:Int)<2 ^ j:=wQB (by decide);have o:=jKC (s:=j+1) (a:=A) (b:=2 ^ j) (by omega) hA (by omega) (by omega) (by rw [Int.pow_succ]; omega);have e2:hiW (A*2 ^ (j+1)*18446744073709551616)=A*2 ^ (j+1):=by unfold hiW; omega
 rw [e2,o.1];unfold hiW loW;generalize A*2 ^ (j+1)=x;generalize (2:Int) ^ j=y;omega
theorem yZd {A:Int} {i:Nat} (hA:0<=A) (hi:i<=63) :
  loW (A*2 ^ (i+1)+2 ^ i)=((BitVec.ofInt 64 (loW (A*2 ^ (i+1))) ||| BitVec.ofInt 64 (2 ^ i)).toNat:Int)/\hiW (A*2 ^ (i+1)+2 ^ i)=hiW (A*2 ^ (i+1)):=by
 have hp:(0:Int)<2 ^ i:=wQB (by decide);have hq:(0:Int)<2 ^ (63-i):=wQB (by decide);have e0:(18446744073709551616:Int)=2 ^ (63-i)*2 ^ (i+1):=by rw [<- wXA,show 63-i+(i+1)=64 by omega]; rfl
 have m0:=wQL A (b:=2 ^ (63-i)) (by omega);have m1:=wQM A hq;have m2:=wZh A (2 ^ (63-i));have e1:A*2 ^ (i+1)=A / 2 ^ (63-i)*18446744073709551616+A%2 ^ (63-i)*2 ^ (i+1):=by
  rw [e0];generalize A / 2 ^ (63-i)=x at *;generalize A%2 ^ (63-i)=y at *;rw [<- m2]; grind
 have b1:(A%2 ^ (63-i)+1)*2 ^ (i+1)<=2 ^ (63-i)*2 ^ (i+1):=Int.mul_le_mul_of_nonneg_right m1 (wZm (wQB (by decide)));rw [<- e0] at b1;have e2:(A%2 ^ (63-i)+1)*2 ^ (i+1)=A%2 ^ (63-i)*2 ^ (i+1)+2*2 ^ i:=by rw [Int.pow_succ]; grind
 rw [e2] at b1;have b0:0<=A%2 ^ (63-i)*2 ^ (i+1):=Int.mul_nonneg m0 (wZm (wQB (by decide)));have o:=jKC (s:=i+1) (a:=A%2 ^ (63-i)) (b:=2 ^ i) (by omega) m0 (by omega) (by omega) (by rw [Int.pow_succ]; omega);rw [e1];have e3:loW (A / 2 ^ (63-i)*18446744073709551616+A%2 ^ (63-i)*2 ^ (i+1))=A%2 ^ (63-i)*2 ^ (i+1):=by unfold loW; omega
 rw [e3,o.1];unfold hiW loW;generalize A%2 ^ (63-i)*2 ^ (i+1)=x at *;generalize A / 2 ^ (63-i)=y at *;generalize (2:Int) ^ i=z at *;omega
theorem yQ6 {h l:Int} {i:Nat} (l0:0<=l) (l1:l<18446744073709551616) (hi:64<=i):wV h l / 2 ^ i=h / 2 ^ (i-64):=by
 have e:(2:Int) ^ i=18446744073709551616*2 ^ (i-64):=by rw [show i=(i-64)+64 by omega,jHz]; simp; grind
 rw [e,<- wYE (by decide)];congr 1;unfold wV; omega
theorem yQ5 {h l:Int} {i:Nat} (hi:i<=63):wV h l / 2 ^ i%2=l / 2 ^ i%2:=by
 have e:wV h l=l+2 ^ i*(h*2 ^ (63-i)*2):=by
  have:(18446744073709551616:Int)=2 ^ i*(2 ^ (63-i)*2):=by rw [<- Int.pow_succ,<- wXA,show i+(63-i+1)=64 by omega]; rfl
  unfold wV; rw [this]; grind
 rw [e,wXW _ _ (Int.ne_of_gt (wQB (by decide)))];omega
theorem yQ1 {r b:Int} (h0:0<=r) (h1:r<18446744073709551616) (b0:0<=b) (b1:b<=1) :
  wrap .u64 (((BitVec.ofInt 64 (wrap .u64 (r*2 ^ min (Int.toNat 1) 64)) ||| BitVec.ofInt 64 b).toNat:Nat):Int)=(2*r+b)%18446744073709551616:=by
 have e:wrap .u64 (r*2 ^ min (Int.toNat 1) 64)=(r%9223372036854775808)*2 ^ 1:=by
  rw [wZl,show min (Int.toNat 1) 64=1 by decide]; omega
 have o:=jKC (s:=1) (a:=r%9223372036854775808) (b:=b) (by omega) (by omega) (by omega) b0 (by omega);rw [e,o.1,wZl];omega
theorem jHf {h:Int} {j:Nat} (h0:0<=h) (h1:h<18446744073709551616) (hj:j<=63) :
  wrap .u64 (((BitVec.ofInt 64 (Int.fdiv h (2 ^ j)) &&& BitVec.ofInt 64 1).toNat:Nat):Int)=h / 2 ^ j%2:=by
 have hp:(0:Int)<2 ^ j:=wQB (by decide);rw [wQU _ (wZm hp)];have a:=wQs h0 (wZm hp);have b:=wZw (2 ^ j) h0;rw [yQi a (by omega),wZl];omega
theorem jHe {j:Nat} (hj:j<=63):wrap .u64 (1*2 ^ j)=2 ^ j/\(2:Int) ^ j<18446744073709551616:=by
 have hp:(0:Int)<2 ^ j:=wQB (by decide);have e:(18446744073709551616:Int)=2 ^ (63-j)*2*2 ^ j:=by rw [<- Int.pow_succ,<- wXA,show 63-j+1+j=64 by omega]; rfl
 have hq:(0:Int)<2 ^ (63-j):=wQB (by decide);have:(2:Int)*2 ^ j<=2 ^ (63-j)*2*2 ^ j:=Int.mul_le_mul_of_nonneg_right (show (2:Int)<=2 ^ (63-j)*2 by omega) (wZm hp);rw [wZl];omega
theorem yQ0 {r b d:Int} (h0:0<=r) (h1:r<d) (hd:d<18446744073709551616) (b0:0<=b) (b1:b<=1) :
  (((Int.fdiv r (2 ^ min (Int.toNat 63) 64)==1)=true\/(2*r+b)%18446744073709551616>=d)->2*r+b>=d/\wrap .u64 ((2*r+b)%18446744073709551616-d)=2*r+b-d)
  /\ ((Int.fdiv r (2 ^ min (Int.toNat 63) 64)==1)=false->¬ (2*r+b)%18446744073709551616>=d->2*r+b<d/\(2*r+b)%18446744073709551616=2*r+b):=by
 have e:Int.fdiv r (2 ^ min (Int.toNat 63) 64)=r / 9223372036854775808:=by
  rw [show ((2:Int) ^ min (Int.toNat 63) 64)=9223372036854775808 from by decide];exact wQU _ (by omega)
 rw [e,wZl,wXx,wXy];omega
structure Iv where
  lo:Int
  hi:Int
def ivZ:Iv:=⟨0,0⟩
def ivU:Iv:=⟨1099511627776,1099511627776⟩
def Iv.ok (x:Iv):Bool:=decide (x.lo<=x.hi)&&(decide (x.lo >= -17592186044416)&&decide (x.hi<=17592186044416))
def Iv.un (x:Iv):Prop:=0<=x.lo/\x.lo<=x.hi/\x.hi<=1099511627776
def zQS (l h:Int):Iv × Bool:=if (⟨l,h⟩:Iv).ok then (⟨l,h⟩,true) else (ivZ,false)
def szI (n:Int):Int:=if n<0 then -n else n
def negI (a b:Int):Bool:=decide (a<0) !=decide (b<0)
def quoN (a b d:Int) (up:Bool):Int:=
 if szI a*szI b / d<35184372088832 then szI a*szI b / d+(if szI a*szI b%d>0/\(up !=negI a b)=true then 1 else 0) else 35184372088832
def quoI (a b d:Int) (up:Bool):Int:=if negI a b then-quoN a b d up else quoN a b d up
def quoL (a b:Int):Int:=quoI a b 1099511627776 false
def quoH (a b:Int):Int:=quoI a b 1099511627776 true
def zJj (x y:Iv):Iv × Bool:=
 zQS (min (min (min (min (quoL x.lo y.lo) (quoL x.lo y.lo)) (quoL x.lo y.hi)) (quoL x.hi y.lo)) (quoL x.hi y.hi))
  (max (max (max (max (quoH x.lo y.lo) (quoH x.lo y.lo)) (quoH x.lo y.hi)) (quoH x.hi y.lo)) (quoH x.hi y.hi))
def okI (x y:Iv) (z:Iv × Bool):Iv × Bool:=if x.ok=true/\y.ok=true then z else (ivZ,false)
def zZK (x:Iv) (m:Int):Iv:=⟨max 0 (min x.lo m),max 0 (min x.hi m)⟩
theorem zGt {l h:Int} (h0:0<=l) (h1:l<=h) (h2:h<=1099511627776):zQS l h=(⟨l,h⟩,true):=by
 unfold zQS Iv.ok;rw [if_pos (by simp only [wQf,wQh]; omega)]
theorem Iv.un.ok' {x:Iv} (h:x.un):x.ok=true:=by
 obtain ⟨a,b,c⟩:=h;simp only [Iv.ok,wQf,wQh]; omega
theorem jW2:ivZ.un:=⟨by decide,by decide,by decide⟩
theorem jHa:ivU.un:=⟨by decide,by decide,by decide⟩
theorem jQh (a d:Int) (up:Bool):quoI a 0 d up=0:=by
 unfold quoI quoN;have e:szI a*szI 0=0:=by simp [szI]
 rw [e]; simp
theorem zKj (a d:Int) (up:Bool):quoI 0 a d up=0:=by
 unfold quoI quoN;have e:szI 0*szI a=0:=by simp [szI]
 rw [e]; simp
abbrev wYr:=@Int.mul_ediv_cancel_left
theorem jWG {a:Int} (up:Bool) (h0:0<=a) (h1:a<=1099511627776):quoI 1099511627776 a 1099511627776 up=a:=by
 unfold quoI quoN;have e:szI 1099511627776*szI a=1099511627776*a:=by simp only [szI]; rw [if_neg (by decide),if_neg (by omega)]
 have n:negI 1099511627776 a=false:=by simp [negI]; omega
 rw [e,n,wYr _ (by decide),Int.mul_emod_right];simp only [wQQ,if_false];rw [if_pos (by omega)];simp
theorem zHD (x:Iv):zJj x ivZ=(ivZ,true):=by
 unfold zJj quoL quoH ivZ;simp only [jQh];rfl
theorem jGB {x:Iv} (h:x.un):zJj ivU x=(x,true):=by
 obtain ⟨a,b,c⟩:=h;have e:∀ up,quoI 1099511627776 x.lo 1099511627776 up=x.lo:=λup=>jWG up a (by omega);have f:∀ up,quoI 1099511627776 x.hi 1099511627776 up=x.hi:=λup=>jWG up (by omega) (by omega);unfold zJj quoL quoH ivU;simp only [e,f];rw [zGt (by omega) (by omega) (by omega)];congr 2<;>omega
def mulI (x y:Iv):Iv:=(okI x y (zJj x y)).1
theorem zZ7 (x:Iv):mulI x ivZ=ivZ:=by
 unfold mulI okI;rw [zHD];split<;>rfl
theorem mul_one {x:Iv} (h:x.un):mulI ivU x=x:=by
 unfold mulI okI;rw [jGB h,if_pos ⟨jHa.ok',h.ok'⟩]
theorem jVS (x:Iv):zZK x 0=ivZ:=by
 unfold zZK ivZ;congr 1<;>omega
theorem zGy {x:Iv} (h:x.un):zZK x 1099511627776=x:=by
 obtain ⟨a,b,c⟩:=h;obtain ⟨l,h⟩:=x;simp only at a b c;unfold zZK;simp only;congr 1<;>omega
def zQt (n m:Int):Iv:=(zQS (quoI n 1099511627776 m false) (quoI n 1099511627776 m true)).1
theorem jKw {n m:Int} (up:Bool) (h0:0<=n) (h1:n<=m) (hm:1<=m):quoI n 1099511627776 m up=n*1099511627776 / m+(if n*1099511627776%m>0/\up=true then 1 else 0):=by
 have e:szI n*szI 1099511627776=n*1099511627776:=by simp only [szI]; rw [if_neg (by omega),if_neg (by decide)]
 have g:negI n 1099511627776=false:=by simp [negI]; omega
 have hb:n*1099511627776 / m<=1099511627776:=by
  have:=wXg (c:=m) (by omega) (Int.mul_le_mul_of_nonneg_right h1 (show (0:Int)<=1099511627776 by decide));rwa [wYr _ (by omega)] at this
 unfold quoI quoN;rw [e,g];simp only [wQQ,if_false];rw [if_pos (by omega)];cases up<;>simp
abbrev wZJ:=@Int.add_zero
theorem zGC {n m:Int} (h0:0<=n) (h1:n<=m) (hm:1<=m) (hM:m<=65535):(zQt n m).un/\m*(zQt n m).lo<=n*1099511627776/\n*1099511627776<=m*(zQt n m).hi:=by
 have hb:n*1099511627776 / m<=1099511627776:=by
  have:=wXg (c:=m) (by omega) (Int.mul_le_mul_of_nonneg_right h1 (show (0:Int)<=1099511627776 by decide));rwa [wYr _ (by omega)] at this
 have e1:=wZh (n*1099511627776) m;have e2:=wQL (n*1099511627776) (b:=m) (by omega);have e3:=wQM (n*1099511627776) (show 0<m by omega);have e4:0<=n*1099511627776 / m:=wQs (by omega) (by omega);have top:n*1099511627776%m>0->n*1099511627776 / m+1<=1099511627776:=λh=>by
  have q:n<m:=by
   apply Int.not_le.1; intro q;have:n=m:=by omega
   subst this;rw [Int.mul_emod_right] at h; omega
  have:=wZV (show 0<m by omega) (show n*1099511627776<1099511627776*m by omega);omega
 unfold zQt;rw [jKw false h0 h1 hm,jKw true h0 h1 hm];simp only [wQQ,and_false,if_false,and_true,wZJ];generalize n*1099511627776 / m=q at *;generalize n*1099511627776%m=r at *;rw [zGt e4 (by split<;>omega) (by split<;>omega)];refine ⟨⟨e4,by simp only; split<;>omega,by simp only; split<;>omega⟩,by simp only; omega,?_⟩;simp only;split
 ·rw [Int.mul_add]; omega
 ·rw [wZJ]; omega
theorem jXA {m:Int} (hm:1<=m):zQt 0 m=ivZ:=by
 unfold zQt;rw [zKj,zKj]; rfl
theorem zVZ {n:Int} (h0 : -9223372036854775808<=n) (h1:n<=9223372036854775807):wrap .i64 n=n:=wQb n ⟨h0,h1⟩
def addI (x y:Iv):Iv:=(okI x y (zQS (wrap .i64 (x.lo+y.lo)) (wrap .i64 (x.hi+y.hi)))).1
def subI (x y:Iv):Iv:=(okI x y (zQS (wrap .i64 (x.lo-y.hi)) (wrap .i64 (x.hi-y.lo)))).1
def lowI (x y:Iv):Iv:=(okI x y (zQS (min x.lo y.lo) (min x.hi y.hi))).1
def jVI (x y:Iv):Iv:=(okI x y (zQS (max x.lo y.lo) (max x.hi y.hi))).1
def jJS (x y:Iv):Iv:=(okI x y (zQS (min x.lo y.lo) (max x.hi y.hi))).1
def zVL (n:Int) (x:Iv):Iv:=⟨wrap .i64 (n*x.lo),wrap .i64 (n*x.hi)⟩
def notI (x:Iv):Iv:=zZK (subI ivU x) 1099511627776
def zWr (f g:Iv):Iv:=zZK (addI f (mulI (notI f) g)) 1099511627776
def yQF (s d:Iv):Iv:=zVL 2 (mulI s d)
def yQE (s a d b:Iv):Iv:=subI (mulI a b) (zVL 2 (mulI (subI b d) (subI a s)))
def jQm (s a d b:Iv):Iv:=
 if wrap .i64 (2*s.hi)<=a.lo then yQF s d
 else if wrap .i64 (2*s.lo)>a.hi then yQE s a d b
 else jJS (yQF s d) (yQE s a d b)
def facI (op:Int) (a b:Iv):Iv × Iv:=
 if op=2 then (ivU,ivZ) else if op=3 then (ivZ,ivU) else if op=4 then (ivU,notI a) else if op=5 then (notI b,ivU)
 else if op=6 then (b,ivZ) else if op=7 then (ivZ,a) else if op=8 then (notI b,ivZ) else if op=9 then (ivZ,notI a)
 else if op=10 then (b,notI a) else if op=11 then (notI b,a) else if op=12 then (notI b,notI a) else (ivZ,ivZ)
def zU0 (op:Int) (a b:Iv):Iv:=zZK (addI (mulI (facI op a b).1 a) (mulI (facI op a b).2 b)) 1099511627776
def zWz (op:Int) (f g:Iv):Iv:=
 if op=2\/op=8\/op=11 then f else if op=3\/op=9\/op=10 then g
 else if op=4\/op=5\/op=12 then zWr f g else if op=6\/op=7 then mulI f g else ivZ
def faB (op:Int):Bool:=decide (op=2\/op=4\/op=5\/op=8\/op=11\/op=12)
theorem add_zero {x:Iv} (h:x.un):addI x ivZ=x:=by
 have ho:=h.ok';obtain ⟨a,b,c⟩:=h;unfold addI okI;rw [if_pos ⟨ho,jW2.ok'⟩];simp only [ivZ,wZJ];rw [zVZ (by omega) (by omega),zVZ (by omega) (by omega),zGt a b c]
abbrev wXX:=@Int.sub_zero
theorem jKL:notI ivZ=ivU:=by
 unfold notI subI okI;rw [if_pos ⟨jHa.ok',jW2.ok'⟩];simp only [ivZ,ivU,wXX];rw [zVZ (by omega) (by omega),zGt (by omega) (by omega) (by omega)];rfl
theorem jK1 (op:Int) (a:Iv):(facI op a ivZ).1=if faB op=true then ivU else ivZ:=by
 unfold facI faB;simp only [jKL,wQh]
 repeat' (split<;>try (first | rfl | omega))
theorem jWU (op:Int) {x:Iv} (h:x.un):mulI (if faB op=true then ivU else ivZ) x=if faB op=true then x else ivZ:=by
 split
 ·exact mul_one h
 ·unfold mulI okI;have:zJj ivZ x=(ivZ,true):=by
   unfold zJj quoL quoH ivZ;simp only [zKj];rfl
  rw [this];split<;>rfl
theorem jZH {x:Iv} (op:Int) (h:x.un):(if faB op=true then x else ivZ:Iv).un:=by
 split
 ·exact h
 ·exact jW2
theorem jUJ (op:Int) {a:Iv} (h:a.un):zU0 op a ivZ=if faB op=true then a else ivZ:=by
 unfold zU0;rw [jK1,jWU op h,zZ7,add_zero (jZH op h),zGy (jZH op h)]
theorem jWm (op:Int) {f:Iv} (h:f.un):zWz op f ivZ=if faB op=true then f else ivZ:=by
 unfold zWz zWr faB;rw [zZ7,zZ7,add_zero h,zGy h];simp only [wQh]
 repeat' (split<;>try (first | rfl | omega))
theorem zG9 (op:Int) {c:Iv} (a:Iv) (h:c.un) (y:Iv):zZK (addI (mulI (facI op a ivZ).1 (addI (mulI (notI ivZ) c) ivZ)) (mulI y ivZ)) 1099511627776=if faB op=true then c else ivZ:=by
 rw [jKL,mul_one h,add_zero h,jK1,jWU op h,zZ7,add_zero (jZH op h),zGy (jZH op h)]
section
attribute [local irreducible] Ans AnsO AnsG AnsN AnsI
def yQS:Gam:=jUh.add []
def aEU (a:Int) (b:List Cl):List Cl:=Cl.d (cE a)::b
def rL (a b:Int) (c:List Cl):List Cl:=aEU a (aEU b c)
def cM (a b:Int):Prop:=cE a=cE b
def aDN (a:Nat):Int:=HPow.hPow (2:Int) a
def yR (a:Int) (b:Prop):Prop:=aK (0<=a) b
def yQ (a:List DV) (b:Int) (c:List RV):RV:=RV.tup (RV.agg a::aR b::c)
def aFL (a:Int) (b:Prop) (c:Int) (d:Nat):Prop:=eC (cE a) (eS (0:Nat)) (bP (aW b (bE c (127-(d:Int)))))
def wJ (a b c:Int) (d:Nat):List DV:=cX (dvQ (wV a b) c d)
def aIM (a b:Nat):Prop:=128-a<b
def aFN (a b:Nat) (c d e f g:Int) (h:List DV) (i:Prop):Prop:=iT (a<=128) (128-a<b) (aFL c (cM (dH d c) (dvP (wV e f) a%c)) g a) (gH e f) h i
def aAX (a b:Int):BitVec 64:=HOr.hOr (BitVec.ofInt 64 a) (BitVec.ofInt 64 b)
def aAW (a b:Int) (c:Nat):Int:=bJ a (aDN (Min.min (Int.toNat b) c))
theorem jQx (ah al d:Int) (hd:1<=d):Ans prog 242 [rA [DV.int .u64 ah,DV.int .u64 al],rD (DV.int .u64 d)] (rT [rA [DV.int .u64 (hiW ((wV ah al) / d)),DV.int .u64 (loW ((wV ah al) / d))],rD (DV.int .u64 ((wV ah al)%d)),rD (dQ true)]):=
 zQa (Γ:=yQS) (dZ (eF (Ann.loop (Inv.mk Nat (λ(e:Nat)=>e<=128) (λ(a:Nat)=>let b:=dvQ (wV ah al) d a;tL (aFI 1 (cE d) 2 2 (gC 4 4 7 7 (tO 8 (cE (dvP (wV ah al) a%d)) 9 (127-(a:Int)) []))) 2 (rL ah al []) 4 (rL 0 0 []) 7 (rL (hiW b) (loW b) [])) (λ(c:Nat)=>128-c)) (λ(f:Nat)=>aL)))) zQb Tryz.func242 rfl (nL rfl) λhwf=>by
  refine Eq.mpr (by kernel_rfl:_=(let y:=yQ (cX (wV ah al/d)) (wV ah al%d) [aB true];let j:=wV ah al;let b:=gH 0 0;aV (gP ((d==0)=true) (rT [rA b,aR 0,aB false]=y) (dX (mA d) (∃ i:Nat,cB i 128 (oK (aFL d (cM 0 (dvP j i%d)) 127 i) (gH ah al) b (b=wJ ah al d i))) (∀ c:Nat,let o:=dvP j c%d;let p:=wJ ah al d c;let a:=127-(c:Int);let q:=dH 127 (c:Int);let r:=dvQ (wV ah al) d c;let z:=loW r;let A:=gH (hiW r) (jX (aAX z (aAW 1 q 64)));let e:=aX a 1;let B:=aAW o 1 64;let C:=aAX B (jX (aFM (jI al q) 1));let k:=jX C;let f:=128-c;let s:=0<=q;let D:=fK a 64 (True/\True/\dN s (∃ u:Nat,aFN u f d k ah al e b (A=wJ ah al d u)));let l:=bH (aX a 64);let E:=gH (jX (aAX (hiW r) (aAW 1 l 64))) z;let F:=0<=l;let G:=dN F (∃ v:Nat,aFN v f d k ah al e b (E=wJ ah al d v));let t:=fQ a 64;let m:=jI o 63==1;let H:=fQ a 64;let I:=aAX B (jX (aFM (jI ah l) 1));let n:=jX I;let J:=fK a 64 (True/\True/\dN s (∃ w:Nat,aFN w f d n ah al e b (A=wJ ah al d w)));let K:=dN F (∃ x:Nat,aFN x f d n ah al e b (E=wJ ah al d x));qX (c<=128) (fQ a 0->True/\True/\aH s (gP t (yR l (yR 63 (aM ((0:Int)<=1) (pT m (jS n d (dP (H->True/\True/\True/\True/\K) J) (fK n d (True/\True/\(∃ h:Nat,iT (h<=128) (aIM h f) (aFL d (cM (jX I) (dvP j h%d)) e h) (gH ah al) b (p=wJ ah al d h))))) (fP m false (gP t K J)))))) (kX a 64->yR 63 (aM ((0:Int)<=1) (pT m (jS k d (dP (H->True/\True/\True/\True/\G) D) (fK k d (True/\True/\(∃ g:Nat,iT (g<=128) (aIM g f) (aFL d (cM (jX C) (dvP j g%d)) e g) (gH ah al) b (p=wJ ah al d g))))) (fP m false (gP t G D))))))) (fK a 0 (bX (yQ p o [aB true]) y))))))) ?_;delta eS fK jS aI aF aH aK aX dX mA eC aM oK bP dN iT bX qX aW dP aB bE aV cB fP cE bH aR gH cX bJ gP dH fQ cM aDN kX pT jI jX aFM yR yQ aFL wJ aIM aFN aAX aAW;simp only [sS];simp only [RV.wfs,RV.wf,DV.wf,DV.wfs] at hwf;have mi:IntKind.min .u64=0:=rfl;have ma:IntKind.max .u64=18446744073709551615:=rfl;have mj:IntKind.min .u16=0:=rfl;have mb:IntKind.max .u16=65535:=rfl;simp only [mi,ma,mj,mb] at hwf;obtain ⟨⟨⟨a0,a1⟩,⟨b0,b1⟩,_⟩,⟨d0,d1⟩,_⟩:=hwf;have n0:0<=wV ah al:=by unfold wV; omega
  have n1:wV ah al<340282366920938463463374607431768211456:=by unfold wV; omega
  have ez:dvP (wV ah al) 0=0:=jGJ n0 n1;have eq:dvQ (wV ah al) d 0=0:=jGI n0 n1;refine ⟨λh=>absurd (show d=0 by simpa using h) (by omega),λ_=>⟨⟨0,Nat.zero_le _,⟨by rw [ez]; simp,by omega⟩,by rw [eq]; rfl,by rw [eq]; rfl⟩,λk hk=>⟨λhlt=>?_,λhge=>?_⟩⟩⟩
  ·obtain ⟨i,hi⟩:∃ i:Nat,i+k=127:=⟨127-k,by omega⟩
   have ei:127-(k:Int)=(i:Int):=by omega
   rw [ei];have r0:0<=dvP (wV ah al) k%d:=wQL _ (by omega);have r1:dvP (wV ah al) k%d<d:=wQM _ (by omega);have NX:=jH5 (N:=wV ah al) (d:=d) hi n0 hd;have bb:0<=wV ah al / 2 ^ i%2/\wV ah al / 2 ^ i%2<=1:=by omega
   have S:=yQ1 r0 (by omega) bb.1 bb.2;have TP:=yQ0 r0 r1 (by omega) bb.1 bb.2;obtain ⟨q0,q1⟩:=yQ2 (d:=d) k n0 n1 hd;have eQ:dvQ (wV ah al) d k=dvP (wV ah al) k / d*2 ^ (i+1):=by unfold dvQ; rw [show 128-k=i+1 by omega]
   have wi:wrap .i64 ((i:Int)-1)=127-((k+1:Nat):Int):=by rw [wQb _ ⟨by omega,by omega⟩]; omega
   rw [show 128-k=i+1 by omega] at q1
   rcases wQr i 64 with h64 | h64
   ·have wu:wrap .u64 (i:Int)=(i:Int):=wQd _ ⟨by omega,by omega⟩;have mi:min i 64=i:=by omega
    have bt:al / 2 ^ i%2=wV ah al / 2 ^ i%2:=(yQ5 (by omega)).symm;have c1:((i:Int)>=64)=False:=eq_false (by omega);have B:=jHf b0 (by omega) (show i<=63 by omega);obtain ⟨o1,o2⟩:=jHe (show i<=63 by omega);obtain ⟨l1,l2⟩:=yZd (i:=i) q0 (by omega);rw [<- eQ] at l1 l2;simp only [wu,wQl,mi,B,bt,S,c1,o1,wi,false_implies,not_false_iff,true_implies,true_and,and_true];have wl:wrap .u64 (loW (dvQ (wV ah al) d k+2 ^ i))=loW (dvQ (wV ah al) d k+2 ^ i):=by rw [wZl]; unfold loW; omega
    simp only [<- l1,wl];refine ⟨by omega,by decide,by decide,λt0=>⟨λt1=>?_,λt1=>?_⟩,λt1=>?_⟩
    ·obtain ⟨g,wd⟩:=TP.1 (.inr t1);obtain ⟨x1,x2⟩:=NX.1 g;exact ⟨by omega,k+1,by omega,by omega,⟨by rw [wd,x1],rfl⟩,by rw [x2,l2],by rw [x2]⟩
    ·obtain ⟨g,wd⟩:=TP.2 t0 t1;obtain ⟨x1,x2⟩:=NX.2 g;exact ⟨k+1,by omega,by omega,⟨by rw [wd,x1],rfl⟩,by rw [x2],by rw [x2]⟩
    ·obtain ⟨g,wd⟩:=TP.1 (.inl t1);obtain ⟨x1,x2⟩:=NX.1 g;exact ⟨by omega,k+1,by omega,by omega,⟨by rw [wd,x1],rfl⟩,by rw [x2,l2],by rw [x2]⟩
   ·obtain ⟨j,rfl⟩:∃ j:Nat,i=j+64:=⟨i-64,by omega⟩
    have wj:wrap .i64 (((j+64:Nat):Int)-64)=(j:Int):=by rw [wQb _ ⟨by omega,by omega⟩]; omega
    have wu:wrap .u64 (j:Int)=(j:Int):=wQd _ ⟨by omega,by omega⟩;have wz:0<=wrap .u64 ((j+64:Nat):Int):=by rw [wQd _ ⟨by omega,by omega⟩]; omega
    have mi:min j 64=j:=by omega
    have bt:ah / 2 ^ j%2=wV ah al / 2 ^ (j+64)%2:=by rw [yQ6 b0 (by omega) (by omega)]; rfl
    have c1:(((j+64:Nat):Int)>=64)=True:=eq_true (by omega);have B:=jHf a0 (by omega) (show j<=63 by omega);obtain ⟨o1,o2⟩:=jHe (show j<=63 by omega);obtain ⟨l1,l2,l3⟩:=yZe (j:=j) q0 q1 (by omega);rw [<- eQ] at l1 l2 l3;have wl:wrap .u64 (hiW (dvQ (wV ah al) d k+2 ^ (j+64)))=hiW (dvQ (wV ah al) d k+2 ^ (j+64)):=by
     rw [l1,wZl];have:=BitVec.isLt (BitVec.ofInt 64 (hiW (dvQ (wV ah al) d k)) ||| BitVec.ofInt 64 (2 ^ j));omega
    simp only [wj,wu,wQl,mi,B,bt,S,c1,o1,wi,not_true,false_implies,true_implies,true_and,and_true];simp only [<- l1,wl];refine ⟨wz,by omega,by decide,by decide,λt0=>⟨λt1=>?_,λt1=>?_⟩,λt1=>?_⟩
    ·obtain ⟨g,wd⟩:=TP.1 (.inr t1);obtain ⟨x1,x2⟩:=NX.1 g;exact ⟨by omega,k+1,by omega,by omega,⟨by rw [wd,x1],rfl⟩,by rw [x2],by rw [x2,l2,l3]⟩
    ·obtain ⟨g,wd⟩:=TP.2 t0 t1;obtain ⟨x1,x2⟩:=NX.2 g;exact ⟨k+1,by omega,by omega,⟨by rw [wd,x1],rfl⟩,by rw [x2],by rw [x2]⟩
    ·obtain ⟨g,wd⟩:=TP.1 (.inl t1);obtain ⟨x1,x2⟩:=NX.1 g;exact ⟨by omega,k+1,by omega,by omega,⟨by rw [wd,x1],rfl⟩,by rw [x2],by rw [x2,l2,l3]⟩
  ·have hk:k=128:=by omega
   subst hk;rw [jH7,jH6];exact ⟨⟨rfl,rfl⟩,rfl⟩
end
set_option maxHeartbeats 4000000
section
attribute [local irreducible] Ans AnsO AnsG AnsN AnsI
def gZ17:List RV->Option RV:=λ| [.agg [.int _ ah,.int _ al],.d (.int _ d)]=>some (RV.tup [RV.agg [DV.int .u64 (hiW ((wV ah al) / d)),DV.int .u64 (loW ((wV ah al) / d))],RV.d (DV.int .u64 ((wV ah al)%d)),RV.d (dQ true)]) | _=>none
def zXH:Gam:=yQS.add [.p 242 gZ17,
 .p 218 (λ| [.agg [.int _ xl,.int _ xh]]=>some (RV.d (dQ (Iv.ok (⟨xl,xh⟩:Iv)))) | _=>none),
 .p 219 (λ| [.d (.int _ a),.d (.int _ b)]=>some (RV.tup [RV.agg [dJ (zQS a b).1.lo,dJ (zQS a b).1.hi],RV.d (dQ (zQS a b).2)]) | _=>none),
 .p 243 (λ| [.d (.int _ n)]=>some (RV.d (DV.int .u64 (szI n))) | _=>none),
 .p 226 (λ| [.d (.int _ a),.d (.int _ b),.d (.int _ d),.d (.bool up)]=>some (rJ (quoI a b d up)) | _=>none),
 .p 177 (λ| [.d (.int _ n),.d (.int _ d)]=>let a:=(zQS (quoI n 1099511627776 d false) (quoI n 1099511627776 d true)); some (RV.tup [RV.agg [dJ a.1.lo,dJ a.1.hi],RV.d (dQ a.2)]) | _=>none),
 .p 220 (λ| [.agg [.int _ xl,.int _ xh],.agg [.int _ yl,.int _ yh],.d (.bool dv)]=>some (RV.tup [RV.agg [dJ (zJj (⟨xl,xh⟩:Iv) (⟨yl,yh⟩:Iv)).1.lo,dJ (zJj (⟨xl,xh⟩:Iv) (⟨yl,yh⟩:Iv)).1.hi],RV.d (dQ (zJj (⟨xl,xh⟩:Iv) (⟨yl,yh⟩:Iv)).2)]) | _=>none),
 .p 168 (λ| [.agg [.int _ xl,.int _ xh],.agg [.int _ yl,.int _ yh]]=>some (RV.tup [RV.agg [dJ (okI (⟨xl,xh⟩:Iv) (⟨yl,yh⟩:Iv) (zQS (wK ((⟨xl,xh⟩:Iv).lo+(⟨yl,yh⟩:Iv).lo)) (wK ((⟨xl,xh⟩:Iv).hi+(⟨yl,yh⟩:Iv).hi)))).1.lo,dJ (okI (⟨xl,xh⟩:Iv) (⟨yl,yh⟩:Iv) (zQS (wK ((⟨xl,xh⟩:Iv).lo+(⟨yl,yh⟩:Iv).lo)) (wK ((⟨xl,xh⟩:Iv).hi+(⟨yl,yh⟩:Iv).hi)))).1.hi],RV.d (dQ (okI (⟨xl,xh⟩:Iv) (⟨yl,yh⟩:Iv) (zQS (wK ((⟨xl,xh⟩:Iv).lo+(⟨yl,yh⟩:Iv).lo)) (wK ((⟨xl,xh⟩:Iv).hi+(⟨yl,yh⟩:Iv).hi)))).2)]) | _=>none),
 .p 176 (λ| [.agg [.int _ xl,.int _ xh],.agg [.int _ yl,.int _ yh]]=>some (RV.tup [RV.agg [dJ (okI (⟨xl,xh⟩:Iv) (⟨yl,yh⟩:Iv) (zQS (wK ((⟨xl,xh⟩:Iv).lo-(⟨yl,yh⟩:Iv).hi)) (wK ((⟨xl,xh⟩:Iv).hi-(⟨yl,yh⟩:Iv).lo)))).1.lo,dJ (okI (⟨xl,xh⟩:Iv) (⟨yl,yh⟩:Iv) (zQS (wK ((⟨xl,xh⟩:Iv).lo-(⟨yl,yh⟩:Iv).hi)) (wK ((⟨xl,xh⟩:Iv).hi-(⟨yl,yh⟩:Iv).lo)))).1.hi],RV.d (dQ (okI (⟨xl,xh⟩:Iv) (⟨yl,yh⟩:Iv) (zQS (wK ((⟨xl,xh⟩:Iv).lo-(⟨yl,yh⟩:Iv).hi)) (wK ((⟨xl,xh⟩:Iv).hi-(⟨yl,yh⟩:Iv).lo)))).2)]) | _=>none),
 .p 169 (λ| [.agg [.int _ xl,.int _ xh],.agg [.int _ yl,.int _ yh]]=>some (RV.tup [RV.agg [dJ (okI (⟨xl,xh⟩:Iv) (⟨yl,yh⟩:Iv) (zJj (⟨xl,xh⟩:Iv) (⟨yl,yh⟩:Iv))).1.lo,dJ (okI (⟨xl,xh⟩:Iv) (⟨yl,yh⟩:Iv) (zJj (⟨xl,xh⟩:Iv) (⟨yl,yh⟩:Iv))).1.hi],RV.d (dQ (okI (⟨xl,xh⟩:Iv) (⟨yl,yh⟩:Iv) (zJj (⟨xl,xh⟩:Iv) (⟨yl,yh⟩:Iv))).2)]) | _=>none),
 .p 222 (λ| [.agg [.int _ xl,.int _ xh],.agg [.int _ yl,.int _ yh]]=>some (RV.tup [RV.agg [dJ (okI (⟨xl,xh⟩:Iv) (⟨yl,yh⟩:Iv) (zQS (min (⟨xl,xh⟩:Iv).lo (⟨yl,yh⟩:Iv).lo) (min (⟨xl,xh⟩:Iv).hi (⟨yl,yh⟩:Iv).hi))).1.lo,dJ (okI (⟨xl,xh⟩:Iv) (⟨yl,yh⟩:Iv) (zQS (min (⟨xl,xh⟩:Iv).lo (⟨yl,yh⟩:Iv).lo) (min (⟨xl,xh⟩:Iv).hi (⟨yl,yh⟩:Iv).hi))).1.hi],RV.d (dQ (okI (⟨xl,xh⟩:Iv) (⟨yl,yh⟩:Iv) (zQS (min (⟨xl,xh⟩:Iv).lo (⟨yl,yh⟩:Iv).lo) (min (⟨xl,xh⟩:Iv).hi (⟨yl,yh⟩:Iv).hi))).2)]) | _=>none),
 .p 223 (λ| [.agg [.int _ xl,.int _ xh],.agg [.int _ yl,.int _ yh]]=>some (RV.tup [RV.agg [dJ (okI (⟨xl,xh⟩:Iv) (⟨yl,yh⟩:Iv) (zQS (max (⟨xl,xh⟩:Iv).lo (⟨yl,yh⟩:Iv).lo) (max (⟨xl,xh⟩:Iv).hi (⟨yl,yh⟩:Iv).hi))).1.lo,dJ (okI (⟨xl,xh⟩:Iv) (⟨yl,yh⟩:Iv) (zQS (max (⟨xl,xh⟩:Iv).lo (⟨yl,yh⟩:Iv).lo) (max (⟨xl,xh⟩:Iv).hi (⟨yl,yh⟩:Iv).hi))).1.hi],RV.d (dQ (okI (⟨xl,xh⟩:Iv) (⟨yl,yh⟩:Iv) (zQS (max (⟨xl,xh⟩:Iv).lo (⟨yl,yh⟩:Iv).lo) (max (⟨xl,xh⟩:Iv).hi (⟨yl,yh⟩:Iv).hi))).2)]) | _=>none),
 .p 239 (λ| [.agg [.int _ xl,.int _ xh],.agg [.int _ yl,.int _ yh]]=>some (RV.tup [RV.agg [dJ (okI (⟨xl,xh⟩:Iv) (⟨yl,yh⟩:Iv) (zQS (min (⟨xl,xh⟩:Iv).lo (⟨yl,yh⟩:Iv).lo) (max (⟨xl,xh⟩:Iv).hi (⟨yl,yh⟩:Iv).hi))).1.lo,dJ (okI (⟨xl,xh⟩:Iv) (⟨yl,yh⟩:Iv) (zQS (min (⟨xl,xh⟩:Iv).lo (⟨yl,yh⟩:Iv).lo) (max (⟨xl,xh⟩:Iv).hi (⟨yl,yh⟩:Iv).hi))).1.hi],RV.d (dQ (okI (⟨xl,xh⟩:Iv) (⟨yl,yh⟩:Iv) (zQS (min (⟨xl,xh⟩:Iv).lo (⟨yl,yh⟩:Iv).lo) (max (⟨xl,xh⟩:Iv).hi (⟨yl,yh⟩:Iv).hi))).2)]) | _=>none),
 .p 58 (λ| [.agg [.int _ xl,.int _ xh],.d (.int _ m)]=>some (RV.agg [dJ (zZK (⟨xl,xh⟩:Iv) m).lo,dJ (zZK (⟨xl,xh⟩:Iv) m).hi]) | _=>none),
 .p 93 (λ| [.agg [.int _ xl,.int _ xh],.agg [.int _ yl,.int _ yh]]=>some (RV.agg [dJ (mulI (⟨xl,xh⟩:Iv) (⟨yl,yh⟩:Iv)).lo,dJ (mulI (⟨xl,xh⟩:Iv) (⟨yl,yh⟩:Iv)).hi]) | _=>none),
 .p 92 (λ| [.agg [.int _ xl,.int _ xh],.agg [.int _ yl,.int _ yh]]=>some (RV.agg [dJ (addI (⟨xl,xh⟩:Iv) (⟨yl,yh⟩:Iv)).lo,dJ (addI (⟨xl,xh⟩:Iv) (⟨yl,yh⟩:Iv)).hi]) | _=>none),
 .p 96 (λ| [.agg [.int _ xl,.int _ xh],.agg [.int _ yl,.int _ yh]]=>some (RV.agg [dJ (subI (⟨xl,xh⟩:Iv) (⟨yl,yh⟩:Iv)).lo,dJ (subI (⟨xl,xh⟩:Iv) (⟨yl,yh⟩:Iv)).hi]) | _=>none),
 .p 172 (λ| [.agg [.int _ xl,.int _ xh],.agg [.int _ yl,.int _ yh]]=>some (RV.agg [dJ (lowI (⟨xl,xh⟩:Iv) (⟨yl,yh⟩:Iv)).lo,dJ (lowI (⟨xl,xh⟩:Iv) (⟨yl,yh⟩:Iv)).hi]) | _=>none),
 .p 173 (λ| [.agg [.int _ xl,.int _ xh],.agg [.int _ yl,.int _ yh]]=>some (RV.agg [dJ (jVI (⟨xl,xh⟩:Iv) (⟨yl,yh⟩:Iv)).lo,dJ (jVI (⟨xl,xh⟩:Iv) (⟨yl,yh⟩:Iv)).hi]) | _=>none),
 .p 221 (λ| [.agg [.int _ xl,.int _ xh],.agg [.int _ yl,.int _ yh]]=>some (RV.agg [dJ (jJS (⟨xl,xh⟩:Iv) (⟨yl,yh⟩:Iv)).lo,dJ (jJS (⟨xl,xh⟩:Iv) (⟨yl,yh⟩:Iv)).hi]) | _=>none),
 .p 97 (λ| [.agg [.int _ xl,.int _ xh],.agg [.int _ yl,.int _ yh]]=>some (RV.agg [dJ (zWr (⟨xl,xh⟩:Iv) (⟨yl,yh⟩:Iv)).lo,dJ (zWr (⟨xl,xh⟩:Iv) (⟨yl,yh⟩:Iv)).hi]) | _=>none),
 .p 175 (λ| [.d (.int _ n),.agg [.int _ xl,.int _ xh]]=>some (RV.agg [dJ (zVL n (⟨xl,xh⟩:Iv)).lo,dJ (zVL n (⟨xl,xh⟩:Iv)).hi]) | _=>none),
 .p 170 (λ| []=>some (RV.agg [dJ 1099511627776,dJ 1099511627776]) | _=>none),
 .p 94 (λ| [.agg [.int _ xl,.int _ xh]]=>some (RV.agg [dJ (notI (⟨xl,xh⟩:Iv)).lo,dJ (notI (⟨xl,xh⟩:Iv)).hi]) | _=>none),
 .p 171 (λ| [.agg [.int _ sl,.int _ sh],.agg [.int _ al,.int _ ah],.agg [.int _ dl,.int _ dh],.agg [.int _ bl,.int _ bh]]=>some (RV.agg [dJ (jQm (⟨sl,sh⟩:Iv) (⟨al,ah⟩:Iv) (⟨dl,dh⟩:Iv) (⟨bl,bh⟩:Iv)).lo,dJ (jQm (⟨sl,sh⟩:Iv) (⟨al,ah⟩:Iv) (⟨dl,dh⟩:Iv) (⟨bl,bh⟩:Iv)).hi]) | _=>none),
 .p 224 (λ| [.agg [.int _ dl,.int _ dh],.agg [.int _ bl,.int _ bh]]=>some (RV.agg [dJ 0,dJ 1099511627776]) | _=>none),
 .p 174 (λ| [.agg [.int _ sl,.int _ sh],.agg [.int _ al,.int _ ah],.agg [.int _ dl,.int _ dh],.agg [.int _ bl,.int _ bh]]=>some (RV.agg [dJ 0,dJ 0]) | _=>none),
 .p 95 (λ| [.d (.int _ mode),.agg [.int _ sl,.int _ sh],.agg [.int _ al,.int _ ah],.agg [.int _ dl,.int _ dh],.agg [.int _ bl,.int _ bh]]=>some (RV.agg [dJ 0,dJ 0]) | _=>none),
 .p 102 (λ| [.d (.int _ n),.d (.int _ m)]=>some (RV.agg [dJ (zQt n m).lo,dJ (zQt n m).hi]) | _=>none),
 .p 98 (λ| [.d (.int _ op),.agg [.int _ al,.int _ ah],.agg [.int _ bl,.int _ bh]]=>some (RV.tup [RV.agg [dJ (facI op (⟨al,ah⟩:Iv) (⟨bl,bh⟩:Iv)).1.lo,dJ (facI op (⟨al,ah⟩:Iv) (⟨bl,bh⟩:Iv)).1.hi],RV.agg [dJ (facI op (⟨al,ah⟩:Iv) (⟨bl,bh⟩:Iv)).2.lo,dJ (facI op (⟨al,ah⟩:Iv) (⟨bl,bh⟩:Iv)).2.hi]]) | _=>none),
 .p 99 (λ| [.d (.int _ op),.agg [.int _ al,.int _ ah],.agg [.int _ bl,.int _ bh]]=>some (RV.agg [dJ (zU0 op (⟨al,ah⟩:Iv) (⟨bl,bh⟩:Iv)).lo,dJ (zU0 op (⟨al,ah⟩:Iv) (⟨bl,bh⟩:Iv)).hi]) | _=>none),
 .p 100 (λ| [.d (.int _ op),.agg [.int _ fl,.int _ fh],.agg [.int _ gl,.int _ gh]]=>some (RV.agg [dJ (zWz op (⟨fl,fh⟩:Iv) (⟨gl,gh⟩:Iv)).lo,dJ (zWz op (⟨fl,fh⟩:Iv) (⟨gl,gh⟩:Iv)).hi]) | _=>none)]
theorem zQH (x:Iv):Ans prog 218 [rA [dJ x.lo,dJ x.hi]] (rD (dQ (Iv.ok x))):=
 zQa (Γ:=zXH) aL zQb Tryz.func218 rfl (nL rfl) λhwf=>by
  refine Eq.mpr (by kernel_rfl:_=(uD (bY (jZ x.lo x.hi) (jS x.lo (-17592186044416) (True/\True/\True/\True/\wM x.hi 17592186044416 (Iv.ok x)) (yZ x.lo (-17592186044416) (eM (Iv.ok x)))) (jJ (decide (x.lo<=x.hi)) true (Iv.ok x))))) ?_;delta eS bY jS aB fP jZ mP eM wM jJ uD yZ;simp only [sS];unfold Iv.ok;grind
def aN (a:Iv):RV:=RV.agg [DV.int IntKind.i64 a.lo,DV.int IntKind.i64 a.hi]
def oV (a:Iv × Bool):RV:=RV.tup [aN a.fst,aB a.snd]
def mS:RV:=RV.agg [DV.int IntKind.i64 0,DV.int IntKind.i64 0]
def oW (a b:Int):RV:=oV (zQS a b)
theorem zZX (a b:Int):Ans prog 219 [rJ (a),rJ (b)] (rT [rA [dJ (((zQS a b).1).lo),dJ (((zQS a b).1).hi)],rD (dQ ((zQS a b).2))]):=
 zQa (Γ:=zXH) aL zQb Tryz.func219 rfl (nL rfl) λhwf=>by
  refine Eq.mpr (by kernel_rfl:_=(let c:=rA [DV.int IntKind.i64 a,DV.int IntKind.i64 b];let d:=(⟨a,b⟩:Iv);aV (True/\True/\True/\True/\True/\dL 218 c (aB (Iv.ok d))/\True/\qH (Iv.ok d) (xB mS (oW a b))/\gI (Iv.ok d) (True/\True/\gR c=oW a b)))) ?_;delta eS aB aV gR dL gI aN qH oV mS oW xB;simp only [sS];refine ⟨zQH ⟨a,b⟩,λh=>?_,λh=>?_⟩<;>simp [zQS,h,ivZ]
theorem zU3 (n:Int):Ans prog 243 [rJ (n)] (rD (DV.int .u64 (szI n))):=
 zQa (Γ:=zXH) aL zQb Tryz.func243 rfl (nL rfl) λhwf=>by
  refine Eq.mpr (by kernel_rfl:_=(bY (kD n 0) (bX (bI (bH (aX 0 (aI (n+1)))+1)) (aR (szI n))) (fV n 0 (True/\True/\bI n=aR (szI n))))) ?_;delta eS bY aI aX kD bX fV cE bH aR bI;simp only [sS];simp only [RV.wfs,RV.wf,DV.wf,DV.wfs] at hwf;have mi:IntKind.min .i64 = -9223372036854775808:=rfl;have ma:IntKind.max .i64=9223372036854775807:=rfl;have mj:IntKind.min .u16=0:=rfl;have mb:IntKind.max .u16=65535:=rfl;simp only [mi,ma,mj,mb] at hwf;obtain ⟨⟨n0,n1⟩,_⟩:=hwf;refine ⟨λh=>?_,λh=>?_⟩
  ·rw [wQb (n+1) ⟨by omega,by omega⟩,wQb (0-(n+1)) ⟨by omega,by omega⟩,wQd (0-(n+1)) ⟨by omega,by omega⟩,wQd _ ⟨by omega,by omega⟩];unfold szI; rw [if_pos h]; omega
  ·rw [wQd n ⟨by omega,by omega⟩];unfold szI; rw [if_neg h]
def fS (a:Int):Int:=wV (hiW a) (loW a)
theorem zYK (a b d:Int) (up:Bool) (hd:1<=d):Ans prog 226 [rJ (a),rJ (b),rD (DV.int .u64 d),rD (dQ up)] (rJ ((quoI a b d up))):=
 zQa (Γ:=zXH) aL zQb Tryz.func226 rfl (nL rfl) λhwf=>by
  refine Eq.mpr (by kernel_rfl:_=(let e:=quoI a b d up;let c:=decide (a<0)==decide (b<0);let k:=pA c (cA 35184372088832 e);let f:=rD (DV.int IntKind.i64 e);let l:=qH c (aAV (aX 0 35184372088832) f);let m:=fS (szI a*szI b);let g:=m/d;let h:=loW g;let i:=aI h;let n:=pA c (cA i e);let o:=qH c (aAV (aX 0 i) f);let j:=m%d;let p:=up==(!c);let q:=aI (i+1);let r:=cX (szI a*szI b);aG (uF (fC 243 a (aR (szI a))) (fC 243 b (aR (szI b))) (fR 59 (aR (szI a)) (eY (szI b)) r) (aK (bF 242 r (eY d) (yQ (cX g) j [aB true])) (aG (aCH (hiW g==0) (gP (kD h 35184372088832) (fU j 0 (sN p (sN c (aAV (aX 0 q) f) (pA c (cA q e))) (bL (sO p) o n)) (mB (xI j) (True/\o/\n))) (bL (decide (h<35184372088832)=false) l k)) (True/\l/\k))))))) ?_;delta eS cA aI aG aK aX kD mB fU bL bF aB fC aAV cE aR gH cX gP yQ eY sO fR sN uF qH fS xI pA aCH;simp only [sS];simp only [RV.wfs,RV.wf,DV.wf,DV.wfs] at hwf;have mi:IntKind.min .i64 = -9223372036854775808:=rfl;have ma:IntKind.max .i64=9223372036854775807:=rfl;have mj:IntKind.min .u64=0:=rfl;have mb:IntKind.max .u64=18446744073709551615:=rfl;simp only [mi,ma,mj,mb] at hwf;obtain ⟨⟨a0,a1⟩,⟨b0,b1⟩,⟨d0,d1⟩,_⟩:=hwf;have sa:0<=szI a/\szI a<=9223372036854775808:=by unfold szI; split<;>omega
  have sb:0<=szI b/\szI b<=9223372036854775808:=by unfold szI; split<;>omega
  have nn:=zQc sa.1 sa.2 sb.1 sb.2;have D:=jQx (hiW (szI a*szI b)) (loW (szI a*szI b)) d hd;simp only [zYh] at D |-;refine ⟨zU3 a,zU3 b,zWl (szI a) (szI b),D,?_⟩;clear D;have q0:0<=szI a*szI b / d:=wQs nn.1 (by omega);have e:quoI a b d up=if (decide (a<0)==decide (b<0))=true then quoN a b d up else-quoN a b d up:=by
   unfold quoI negI;cases (decide (a<0))<;>cases (decide (b<0))<;>rfl
  have e2:negI a b=!(decide (a<0)==decide (b<0)):=by
   unfold negI;cases (decide (a<0))<;>cases (decide (b<0))<;>rfl
  rw [e];unfold quoN;rw [e2];generalize szI a*szI b / d=q at *;generalize szI a*szI b%d=r at *;generalize (decide (a<0)==decide (b<0))=z;have wl:q<18446744073709551616->loW q=q:=λh=>by unfold loW; omega
  have wn:wrap .i64 (0-35184372088832) = -35184372088832:=by decide
  refine ⟨λh=>?_,λh=>?_⟩
  ·have h:q<18446744073709551616:=by
    have:hiW q=0:=by simpa using h
    unfold hiW at this; omega
   rw [wl h];refine ⟨λh2=>?_,λh2=>?_⟩
   ·rw [if_pos h2,zVZ (n:=q) (by omega) (by omega),zVZ (n:=q+1) (by omega) (by omega),zVZ (n:=0-(q+1)) (by omega) (by omega),zVZ (n:=0-q) (by omega) (by omega)];refine ⟨λh3=>?_,λh3=>?_⟩
    ·cases up<;>cases z<;>simp [h3]<;>omega
    ·cases up<;>cases z<;>simp [h3]<;>omega
   ·rw [if_neg h2,wn];cases z<;>simp
  ·have h:¬ q<35184372088832:=by
    have:¬ hiW q=0:=by simpa using h
    unfold hiW at this; omega
   rw [if_neg h,wn];cases z<;>simp
def xA (a b:Int):Prop:=aFZ 219 a b (oW a b)
def oX (a b:Int) (c:Bool):Int:=quoI a 1099511627776 b c
def aHJ (a:Int):Bool:=decide (a>1099511627776)
theorem jV1 (n d:Int) (h0:0<=n/\n<=1099511627776) (h1:1<=d/\d<=1099511627776):Ans prog 177 [rJ (n),rJ (d)] (rT [rA [dJ (((zQS (quoI n 1099511627776 d false) (quoI n 1099511627776 d true)).1).lo),dJ (((zQS (quoI n 1099511627776 d false) (quoI n 1099511627776 d true)).1).hi)],rD (dQ ((zQS (quoI n 1099511627776 d false) (quoI n 1099511627776 d true)).2))]):=
 zQa (Γ:=zXH) aL zQb Tryz.func177 rfl (nL rfl) λhwf=>by
  refine Eq.mpr (by kernel_rfl:_=(let b:=oW (oX n d false) (oX n d true);let g:=kY mS b;let h:=aG g;let c:=(-(1099511627776:Int));let e:=bH d;let i:=aX 0 d;let f:=bH i;let a:=aX 0 n;let j:=oX a f true;let k:=oX a f false;dP ((d==0)=false->True/\True/\True/\True/\fV n c (xC n 1099511627776 (aBU (decide (d<c)=false->fU d 1099511627776 (xB mS b) (cR (aHJ d) (pK d 0 (bS (aH (jE 226 a 1099511627776 [bI i,aB false] (oX a f false)) (True/\True/\jE 226 a 1099511627776 [bI i,aB true] (oX a f true)/\xA k j/\bX (oW k j) b)))) (fV d 0 (aH (jE 226 n 1099511627776 [bI d,aB false] (oX n e false)) (True/\True/\jE 226 n 1099511627776 [bI d,aB true] (oX n e true)/\xA (oX n e false) (oX n e true)/\bX (oW (oX n e false) (oX n e true)) b))))) (mN d c false) g) (jV (aHJ n) (bX (rT [mS,aB false]) b)))/\(mN n c false->h)) (jV (d==0) h))) ?_;delta eS mN aI aG aH aX jE kD pK bX fU nJ dP cR fV aB bS jV cE bH aR bI kY aFZ aN oV mS oW xB xA oX aHJ xC aBU;simp only [sS];simp only [RV.wfs,RV.wf,DV.wf,DV.wfs] at hwf;have mi:IntKind.min .i64 = -9223372036854775808:=rfl;have ma:IntKind.max .i64=9223372036854775807:=rfl;have mj:IntKind.min .u16=0:=rfl;have mb:IntKind.max .u16=65535:=rfl;simp only [mi,ma,mj,mb] at hwf;obtain ⟨_,⟨d0,d1⟩,_⟩:=hwf;refine ⟨λ_=>⟨λ_=>⟨λ_=>⟨λ_=>⟨λh=>absurd h (by omega),λ_=>⟨λh=>absurd h (by omega),λ_=>?_⟩⟩,λh=>absurd h (by omega)⟩,λh=>absurd h (by omega)⟩,λh=>absurd h (by omega)⟩,λh=>absurd (show d=0 by simpa using h) (by omega)⟩;rw [wQd d ⟨by omega,by omega⟩];exact ⟨zYK n 1099511627776 d false h1.1,zYK n 1099511627776 d true h1.1,zZX _ _,⟨rfl,rfl⟩,rfl⟩
def iR (a b:Int) (c:Bool):Int:=quoI a b 1099511627776 c
def uJ (a:Prop) (b c:List DV) (d e:Int) (f:List DV):Prop:=True/\oK a b c (eS (DV.int IntKind.i64 d::DV.int IntKind.i64 e::f))
def xF (a b:Int) (c:List RV) (d:Bool):Prop:=jE 226 a b (aR 1099511627776::c) (iR a b d)
theorem jY0 (x y:Iv) (lz:Unit):Ans prog 220 [rA [dJ x.lo,dJ x.hi],rA [dJ y.lo,dJ y.hi],rD (dQ (false:Bool))] (rT [rA [dJ (((zJj x y).1).lo),dJ (((zJj x y).1).hi)],rD (dQ ((zJj x y).2))]):=
 zQa (Γ:=zXH) (let a:=y.hi;let c:=y.lo;let e:=cS c a (cS c a []);let d:=x.hi;let b:=x.lo;let f:=bO b::cS b d [bO d];let g:=cS 0 0 [];let h:=Max.max (iR b c true) (iR b c true);let i:=Max.max (Max.max h (iR b a true)) (iR d c true);let j:=Min.min (iR b c false) (iR b c false);let k:=Min.min j (iR b a false);let l:=Min.min k (iR d c false);let m:=vP (xE true) (rF (vP (xE false) (mQ false)));dZ (eF (Ann.link (Inv.mk Unit (λ(q:Unit)=>True) (λ(w:Unit)=>tL (uE yW (aBZ 9 9 10 0 (aCE 11 0 (aEF 12 0)))) 6 g 8 f 9 e) (λ(o:Unit)=>(0:Nat))) (λ(v:Unit)=>vP (xE true) (rF (vP (xE false) (mQ true)))) (Ann.link (Inv.mk Unit (λ(q:Unit)=>True) (λ(u:Unit)=>tL (uE yW (aAM 9 10 j 11 h 12 1 [])) 6 g 8 f 9 e) (λ(o:Unit)=>(0:Nat))) (λ(r:Unit)=>m) (Ann.link (Inv.mk Unit (λ(q:Unit)=>True) (λ(t:Unit)=>tL (uE yW (aAM 9 10 k 11 (Max.max h (iR b a true)) 12 2 [])) 6 g 8 f 9 e) (λ(o:Unit)=>(0:Nat))) (λ(r:Unit)=>m) (Ann.link (Inv.mk Unit (λ(q:Unit)=>True) (λ(s:Unit)=>tL (uE yW (aAM 9 10 l 11 i 12 3 [])) 6 g 8 f 9 e) (λ(o:Unit)=>(0:Nat))) (λ(r:Unit)=>m) (Ann.link (Inv.mk Unit (λ(q:Unit)=>True) (λ(p:Unit)=>tL (uE yW (aAM 9 10 (Min.min l (iR d a false)) 11 (Max.max i (iR d a true)) 12 4 [])) 6 g 8 f 9 e) (λ(o:Unit)=>(0:Nat))) (λ(n:Unit)=>mQ false) aL))))))) zQb Tryz.func220 rfl (nL rfl) λhwf=>by
  refine Eq.mpr (by kernel_rfl:_=(let a:=y.hi;let d:=x.hi;let b:=y.lo;let c:=x.lo;let j:=Max.max (iR c b true) (iR c b true);let n:=Max.max (Max.max j (iR c a true)) (iR d b true);let k:=Max.max n (iR d a true);let o:=Min.min (iR c b false) (iR c b false);let p:=Min.min o (iR c a false);let q:=Min.min p (iR d b false);let l:=Min.min q (iR d a false);let e:=sM b a;let f:=vH c::DV.int IntKind.i64 c::DV.int IntKind.i64 d::nI d;let g:=sM 0 0;let h:=[aB true];let m:=oF 3 3 4;let i:=[aB false];aV (aG (aG (aG (True/\True/\(∃ C:Unit,uJ (eC yW (eS (0:Nat)) (bN (mI gN (rG True)))) g f b a e)/\(∀ B:Unit,oQ (aM (kD 0 4) (aFU (eS false) (fL 4) (xF c b i false) (aK (fL 4) (fH (fL 4) (xF c b h true) (lY (aM (((0:Int)==0)=true) (lE (∃ A:Unit,uJ (eC yW (eS (0:Nat)) (bN (aF (eS (0:Nat)) (bG o) (bG j) (lM 0 1)))) g f b a e)))))))))/\aF (∀ z:Unit,oQ (aM (kD 1 4) (fH (eS false) (iX 4) (True/\iX 4/\True/\xF c a i false/\True/\iX 4/\aH (iX 4) (kV (xF c a h true) (True/\True/\aM (mA 1) (aG (∃ w:Unit,uJ (eC yW (eS (0:Nat)) (bN (aF (eS (0:Nat)) (bG p) (bG (Max.max j (iR c a true))) (lM 1 2)))) g f b a e)))))))) (∀ v:Unit,oQ (aM (kD 2 4) (aFU (eS false) (jT 4) (xF d b i false) (aK (jT 4) (fH (jT 4) (xF d b h true) (lY (aM (mA 2) (aG (∃ u:Unit,uJ (eC yW (eS (0:Nat)) (bN (aF (eS (0:Nat)) (bG q) (bG n) (lM 2 3)))) g f b a e))))))))) (∀ t:Unit,oQ (aM (kD 3 4) (aFU (eS false) m (xF d a i false) (aK m (fH m (xF d a h true) (lY (aM (mA 3) (aG (∃ s:Unit,uJ (eC yW (eS (0:Nat)) (bN (aF (eS (0:Nat)) (bG l) (bG k) (lM 3 4)))) g f b a e))))))))) (∀ r:Unit,oQ (decide ((4:Int)<4)=false/\True/\True/\xA l k/\bX (oW l k) (oV (zJj x y)))))))))) ?_;delta eS vH aI aF aG aH aK oF jE fL mA lY kD eC aM bG oK bN bX nI iX jT aB bE aV sM rG gN kV mI cE aR aFZ lM oQ yW lE uF fH aFU aN oV oW xA iR uJ xF;simp only [sS];have Q:=λa b up=>zYK a b 1099511627776 up (by decide)
  (repeat' (first | apply And.intro | refine Exists.intro () ?_))<;>first | exact Q _ _ _ | exact zZX _ _ | exact trivial | rfl | decide | omega
def aBT (a:Iv) (b:List RV) (c:Iv) (d:Iv × Bool) (e:Prop) (f:RV):Prop:=True/\iY (Ans prog 218 (aN a::b) (aB (Iv.ok a))) (gI (Iv.ok a) (uY (Ans prog 218 (aN c::b) (aB (Iv.ok c))) (Iv.ok c) (xB mS (oV (okI a c d))) (gI (Iv.ok c) e))) (fP (!(Iv.ok a)) false (kY f (oV (okI a c d))))
theorem jKd (x y:Iv):Ans prog 168 [rA [dJ x.lo,dJ x.hi],rA [dJ y.lo,dJ y.hi]] (rT [rA [dJ (((okI x y (zQS (wK (x.lo+y.lo)) (wK (x.hi+y.hi)))).1).lo),dJ (((okI x y (zQS (wK (x.lo+y.lo)) (wK (x.hi+y.hi)))).1).hi)],rD (dQ ((okI x y (zQS (wK (x.lo+y.lo)) (wK (x.hi+y.hi)))).2))]):=
 zQa (Γ:=zXH) aL zQb Tryz.func168 rfl (nL rfl) λhwf=>by
  refine Eq.mpr (by kernel_rfl:_=(let a:=aI (x.hi+y.hi);let b:=aI (x.lo+y.lo);let c:=zQS b a;aBT x [] y c (bS (bV (xA b a) (oW b a=oV (okI x y c)))) mS)) ?_;delta eS aI bV iY aB bS fP kY aFZ gI aN qH oV uY mS oW xB xA aBT;simp only [sS];have V1:=zQH x;have V2:=zQH y;have M:=zZX;refine ⟨V1,λh1=>⟨V2,λh2=>?_,λh2=>⟨M _ _,?_⟩⟩,λh1=>?_⟩
  ·unfold okI; rw [if_neg (by rw [h2]; simp)]; exact ⟨⟨rfl,rfl⟩,rfl⟩
  ·unfold okI; rw [if_pos ⟨h1,h2⟩]; exact ⟨⟨rfl,rfl⟩,rfl⟩
  ·unfold okI; rw [if_neg (by rw [h1]; simp)]; exact ⟨⟨rfl,rfl⟩,rfl⟩
theorem jJ9 (x y:Iv):Ans prog 176 [rA [dJ x.lo,dJ x.hi],rA [dJ y.lo,dJ y.hi]] (rT [rA [dJ (((okI x y (zQS (wK (x.lo-y.hi)) (wK (x.hi-y.lo)))).1).lo),dJ (((okI x y (zQS (wK (x.lo-y.hi)) (wK (x.hi-y.lo)))).1).hi)],rD (dQ ((okI x y (zQS (wK (x.lo-y.hi)) (wK (x.hi-y.lo)))).2))]):=
 zQa (Γ:=zXH) aL zQb Tryz.func176 rfl (nL rfl) λhwf=>by
  refine Eq.mpr (by kernel_rfl:_=(let a:=aX x.hi y.lo;let b:=aX x.lo y.hi;let c:=zQS b a;aBT x [] y c (bS (bV (xA b a) (oW b a=oV (okI x y c)))) mS)) ?_;delta eS aI aX bV iY aB bS fP kY aFZ gI aN qH oV uY mS oW xB xA aBT;simp only [sS];have V1:=zQH x;have V2:=zQH y;have M:=zZX;refine ⟨V1,λh1=>⟨V2,λh2=>?_,λh2=>⟨M _ _,?_⟩⟩,λh1=>?_⟩
  ·unfold okI; rw [if_neg (by rw [h2]; simp)]; exact ⟨⟨rfl,rfl⟩,rfl⟩
  ·unfold okI; rw [if_pos ⟨h1,h2⟩]; exact ⟨⟨rfl,rfl⟩,rfl⟩
  ·unfold okI; rw [if_neg (by rw [h1]; simp)]; exact ⟨⟨rfl,rfl⟩,rfl⟩
theorem jKb (x y:Iv):Ans prog 222 [rA [dJ x.lo,dJ x.hi],rA [dJ y.lo,dJ y.hi]] (rT [rA [dJ (((okI x y (zQS (min x.lo y.lo) (min x.hi y.hi))).1).lo),dJ (((okI x y (zQS (min x.lo y.lo) (min x.hi y.hi))).1).hi)],rD (dQ ((okI x y (zQS (min x.lo y.lo) (min x.hi y.hi))).2))]):=
 zQa (Γ:=zXH) aL zQb Tryz.func222 rfl (nL rfl) λhwf=>by
  refine Eq.mpr (by kernel_rfl:_=(let a:=Min.min x.hi y.hi;let b:=Min.min x.lo y.lo;let c:=zQS b a;aBT x [] y c (bS (bV (xA b a) (oW b a=oV (okI x y c)))) mS)) ?_;delta eS bV iY aB bS fP kY aFZ gI aN qH oV uY mS oW xB xA aBT;simp only [sS];have V1:=zQH x;have V2:=zQH y;have M:=zZX;refine ⟨V1,λh1=>⟨V2,λh2=>?_,λh2=>⟨M _ _,?_⟩⟩,λh1=>?_⟩
  ·unfold okI; rw [if_neg (by rw [h2]; simp)]; exact ⟨⟨rfl,rfl⟩,rfl⟩
  ·unfold okI; rw [if_pos ⟨h1,h2⟩]; exact ⟨⟨rfl,rfl⟩,rfl⟩
  ·unfold okI; rw [if_neg (by rw [h1]; simp)]; exact ⟨⟨rfl,rfl⟩,rfl⟩
theorem jKc (x y:Iv):Ans prog 223 [rA [dJ x.lo,dJ x.hi],rA [dJ y.lo,dJ y.hi]] (rT [rA [dJ (((okI x y (zQS (max x.lo y.lo) (max x.hi y.hi))).1).lo),dJ (((okI x y (zQS (max x.lo y.lo) (max x.hi y.hi))).1).hi)],rD (dQ ((okI x y (zQS (max x.lo y.lo) (max x.hi y.hi))).2))]):=
 zQa (Γ:=zXH) aL zQb Tryz.func223 rfl (nL rfl) λhwf=>by
  refine Eq.mpr (by kernel_rfl:_=(let a:=Max.max x.lo y.lo;let b:=zQS a (Max.max x.hi y.hi);let c:=Max.max x.hi y.hi;aBT x [] y b (bS (bV (xA a c) (oW a c=oV (okI x y b)))) mS)) ?_;delta eS bV iY aB bS fP kY aFZ gI aN qH oV uY mS oW xB xA aBT;simp only [sS];have V1:=zQH x;have V2:=zQH y;have M:=zZX;refine ⟨V1,λh1=>⟨V2,λh2=>?_,λh2=>⟨M _ _,?_⟩⟩,λh1=>?_⟩
  ·unfold okI; rw [if_neg (by rw [h2]; simp)]; exact ⟨⟨rfl,rfl⟩,rfl⟩
  ·unfold okI; rw [if_pos ⟨h1,h2⟩]; exact ⟨⟨rfl,rfl⟩,rfl⟩
  ·unfold okI; rw [if_neg (by rw [h1]; simp)]; exact ⟨⟨rfl,rfl⟩,rfl⟩
theorem jY2 (x y:Iv):Ans prog 239 [rA [dJ x.lo,dJ x.hi],rA [dJ y.lo,dJ y.hi]] (rT [rA [dJ (((okI x y (zQS (min x.lo y.lo) (max x.hi y.hi))).1).lo),dJ (((okI x y (zQS (min x.lo y.lo) (max x.hi y.hi))).1).hi)],rD (dQ ((okI x y (zQS (min x.lo y.lo) (max x.hi y.hi))).2))]):=
 zQa (Γ:=zXH) aL zQb Tryz.func239 rfl (nL rfl) λhwf=>by
  refine Eq.mpr (by kernel_rfl:_=(let a:=Min.min x.lo y.lo;let b:=zQS a (Max.max x.hi y.hi);let c:=Max.max x.hi y.hi;aBT x [] y b (bS (bV (xA a c) (oW a c=oV (okI x y b)))) mS)) ?_;delta eS bV iY aB bS fP kY aFZ gI aN qH oV uY mS oW xB xA aBT;simp only [sS];have V1:=zQH x;have V2:=zQH y;have M:=zZX;refine ⟨V1,λh1=>⟨V2,λh2=>?_,λh2=>⟨M _ _,?_⟩⟩,λh1=>?_⟩
  ·unfold okI; rw [if_neg (by rw [h2]; simp)]; exact ⟨⟨rfl,rfl⟩,rfl⟩
  ·unfold okI; rw [if_pos ⟨h1,h2⟩]; exact ⟨⟨rfl,rfl⟩,rfl⟩
  ·unfold okI; rw [if_neg (by rw [h1]; simp)]; exact ⟨⟨rfl,rfl⟩,rfl⟩
theorem jKa (x y:Iv):Ans prog 169 [rA [dJ x.lo,dJ x.hi],rA [dJ y.lo,dJ y.hi]] (rT [rA [dJ (((okI x y (zJj x y)).1).lo),dJ (((okI x y (zJj x y)).1).hi)],rD (dQ ((okI x y (zJj x y)).2))]):=
 zQa (Γ:=zXH) aL zQb Tryz.func169 rfl (nL rfl) λhwf=>by
  refine Eq.mpr (by kernel_rfl:_=(let a:=zJj x y;aBT x [] y a (True/\Ans prog 220 [aN x,aN y,aB false] (oV a)/\bX (oV a) (oV (okI x y a))) mS)) ?_;delta eS bX iY aB fP kY gI aN qH oV uY mS xB aBT;simp only [sS];have V1:=zQH x;have V2:=zQH y;have M:=zZX;refine ⟨V1,λh1=>⟨V2,λh2=>?_,λh2=>⟨jY0 x y (),?_⟩⟩,λh1=>?_⟩
  ·unfold okI; rw [if_neg (by rw [h2]; simp)]; exact ⟨⟨rfl,rfl⟩,rfl⟩
  ·unfold okI; rw [if_pos ⟨h1,h2⟩]; exact ⟨⟨rfl,rfl⟩,rfl⟩
  ·unfold okI; rw [if_neg (by rw [h1]; simp)]; exact ⟨⟨rfl,rfl⟩,rfl⟩
theorem zZv (x:Iv) (m:Int):Ans prog 58 [rA [dJ x.lo,dJ x.hi],rJ (m)] (rA [dJ ((zZK x m).lo),dJ ((zZK x m).hi)]):=
 zQa (Γ:=zXH) aL zQb Tryz.func58 rfl (nL rfl) λhwf=>by
  refine Eq.mpr (by kernel_rfl:_=(bS (aG (rA [DV.int IntKind.i64 (Max.max (0:Int) (Min.min x.lo m)),DV.int IntKind.i64 (Max.max (0:Int) (Min.min x.hi m))]=aN (zZK x m))))) ?_;delta eS aG bS aN;simp only [sS];exact ⟨rfl,rfl⟩
def zH5:Ann:=Ann.leaf
def aHK:RV:=RV.agg [DV.int IntKind.i64 1099511627776,DV.int IntKind.i64 1099511627776]
theorem jV0:vcg prog zXH 2 (zW4 Tryz.f170) (zH5 ) kn0 (start []) (post prog Tryz.f170.results.toList (·=RV.agg [DV.int .i64 1099511627776,DV.int .i64 1099511627776])) =
 (aV (eS aHK)):=by kernel_rfl
theorem zH4:Ans prog 170 [] (rA [dJ 1099511627776,dJ 1099511627776]):=
 zQa (Γ:=zXH) (zH5 ) zQb Tryz.func170 rfl (nL rfl) λhwf=>by
  refine Eq.mpr (jV0 ) ?_;delta eS aV aHK;simp only [sS]
  done
theorem zKy (n:Int) (x:Iv):Ans prog 175 [rJ (n),rA [dJ x.lo,dJ x.hi]] (rA [dJ ((zVL n x).lo),dJ ((zVL n x).hi)]):=
 zQa (Γ:=zXH) aL zQb Tryz.func175 rfl (nL rfl) λhwf=>by
  refine Eq.mpr (by kernel_rfl:_=(lE (rA [DV.int IntKind.i64 (aI (n*x.lo)),DV.int IntKind.i64 (aI (n*x.hi))]=aN (zVL n x)))) ?_;delta eS aI aG lE aN;simp only [sS];exact ⟨rfl,rfl⟩
def aCC (a:FuncId) (b c:Iv) (d:List RV) (e:Iv × Bool) (f:Iv):Prop:=dP (Ans prog a (aN b::aN c::d) (oV (okI b c e))) (aG (aN (okI b c e).fst=aN f))
theorem zZq (x y:Iv):Ans prog 93 [rA [dJ x.lo,dJ x.hi],rA [dJ y.lo,dJ y.hi]] (rA [dJ ((mulI x y).lo),dJ ((mulI x y).hi)]):=
 zQa (Γ:=zXH) aL zQb Tryz.func93 rfl (nL rfl) λhwf=>by
  refine Eq.mpr (by kernel_rfl:_=(aCC 169 x y [] (zJj x y) (mulI x y))) ?_;delta eS aG dP aB aN oV aCC;simp only [sS];exact ⟨jKa x y,rfl,rfl⟩
theorem zJf (x y:Iv):Ans prog 92 [rA [dJ x.lo,dJ x.hi],rA [dJ y.lo,dJ y.hi]] (rA [dJ ((addI x y).lo),dJ ((addI x y).hi)]):=
 zQa (Γ:=zXH) aL zQb Tryz.func92 rfl (nL rfl) λhwf=>by
  refine Eq.mpr (by kernel_rfl:_=(aCC 168 x y [] (zQS (aI (x.lo+y.lo)) (aI (x.hi+y.hi))) (addI x y))) ?_;delta eS aI aG dP aB aN oV aCC;simp only [sS];exact ⟨jKd x y,rfl,rfl⟩
theorem zJe (x y:Iv):Ans prog 96 [rA [dJ x.lo,dJ x.hi],rA [dJ y.lo,dJ y.hi]] (rA [dJ ((subI x y).lo),dJ ((subI x y).hi)]):=
 zQa (Γ:=zXH) aL zQb Tryz.func96 rfl (nL rfl) λhwf=>by
  refine Eq.mpr (by kernel_rfl:_=(aCC 176 x y [] (zQS (aX x.lo y.hi) (aX x.hi y.lo)) (subI x y))) ?_;delta eS aI aG aX dP aB aN oV aCC;simp only [sS];exact ⟨jJ9 x y,rfl,rfl⟩
theorem jJ8 (x y:Iv):Ans prog 172 [rA [dJ x.lo,dJ x.hi],rA [dJ y.lo,dJ y.hi]] (rA [dJ ((lowI x y).lo),dJ ((lowI x y).hi)]):=
 zQa (Γ:=zXH) aL zQb Tryz.func172 rfl (nL rfl) λhwf=>by
  refine Eq.mpr (by kernel_rfl:_=(aCC 222 x y [] (zQS (Min.min x.lo y.lo) (Min.min x.hi y.hi)) (lowI x y))) ?_;delta eS aG dP aB aN oV aCC;simp only [sS];exact ⟨jKb x y,rfl,rfl⟩
theorem jYZ (x y:Iv):Ans prog 173 [rA [dJ x.lo,dJ x.hi],rA [dJ y.lo,dJ y.hi]] (rA [dJ ((jVI x y).lo),dJ ((jVI x y).hi)]):=
 zQa (Γ:=zXH) aL zQb Tryz.func173 rfl (nL rfl) λhwf=>by
  refine Eq.mpr (by kernel_rfl:_=(aCC 223 x y [] (zQS (Max.max x.lo y.lo) (Max.max x.hi y.hi)) (jVI x y))) ?_;delta eS aG dP aB aN oV aCC;simp only [sS];exact ⟨jKc x y,rfl,rfl⟩
theorem jYY (x y:Iv):Ans prog 221 [rA [dJ x.lo,dJ x.hi],rA [dJ y.lo,dJ y.hi]] (rA [dJ ((jJS x y).lo),dJ ((jJS x y).hi)]):=
 zQa (Γ:=zXH) aL zQb Tryz.func221 rfl (nL rfl) λhwf=>by
  refine Eq.mpr (by kernel_rfl:_=(aCC 239 x y [] (zQS (Min.min x.lo y.lo) (Max.max x.hi y.hi)) (jJS x y))) ?_;delta eS aG dP aB aN oV aCC;simp only [sS];exact ⟨jY2 x y,rfl,rfl⟩
def iP (a:FuncId) (b:Iv) (c:List RV) (d:Iv):Prop:=Ans prog a (aN b::c) (aN d)
def pH (a:Iv):Iv:=zZK a 1099511627776
def aCD (a:Iv) (b:List RV):Prop:=iP 58 a (RV.d (DV.int IntKind.i64 1099511627776)::b) (pH a)
theorem zWk (x:Iv):Ans prog 94 [rA [dJ x.lo,dJ x.hi]] (rA [dJ ((notI x).lo),dJ ((notI x).hi)]):=
 zQa (Γ:=zXH) aL zQb Tryz.func94 rfl (nL rfl) λhwf=>by
  refine Eq.mpr (by kernel_rfl:_=(let a:=subI ⟨1099511627776,1099511627776⟩ x;aH (Ans prog 170 [] aHK) (Ans prog 96 [aHK,aN x] (aN a)/\aCD a []/\True/\eS true/\aN (pH a)=aN (notI x)))) ?_;delta eS aH aN iP pH aCD aHK;simp only [sS];exact ⟨zH4,zJe ivU x,zZv _ _,rfl,rfl⟩
def zE (a:Iv) (b:List RV) (c:Iv):Prop:=iP 93 a b (mulI a c)
def lH (a b:Iv):Prop:=zE a [aN b] b
def aBV (a b c:Iv) (d:List RV):Prop:=iP 92 a (aN (mulI b c)::d) (addI a (mulI b c))
theorem jXp (x y:Iv):Ans prog 97 [rA [dJ x.lo,dJ x.hi],rA [dJ y.lo,dJ y.hi]] (rA [dJ ((zWr x y).lo),dJ ((zWr x y).hi)]):=
 zQa (Γ:=zXH) aL zQb Tryz.func97 rfl (nL rfl) λhwf=>by
  refine Eq.mpr (by kernel_rfl:_=(let a:=addI x (mulI (notI x) y);dP (iP 94 x [] (notI x)) (True/\lH (notI x) y/\aBV x (notI x) y []/\aCD a []/\True/\eS true/\aN (pH a)=aN (zWr x y)))) ?_;delta eS dP aN iP zE lH aBV pH aCD;simp only [sS];exact ⟨zWk x,zZq _ y,zJf x _,zZv _ _,rfl,rfl⟩
def sJ (a:FuncId) (b:Int) (c:Iv) (e:List RV) (f:RV):Prop:=Ans prog a (RV.d (DV.int IntKind.i64 b)::aN c::e) f
def aBW (a b:Iv) (c:List RV):Prop:=iP 96 a (aN b::c) (subI a b)
theorem zU4 (s a d b:Iv):Ans prog 171 [rA [dJ s.lo,dJ s.hi],rA [dJ a.lo,dJ a.hi],rA [dJ d.lo,dJ d.hi],rA [dJ b.lo,dJ b.hi]] (rA [dJ ((jQm s a d b).lo),dJ ((jQm s a d b).hi)]):=
 zQa (Γ:=zXH) aL zQb Tryz.func171 rfl (nL rfl) λhwf=>by
  refine Eq.mpr (by kernel_rfl:_=(let c:=aN (jQm s a d b);let h:=mulI (subI b d) (subI a s);let e:=zVL 2 h;let f:=subI (mulI a b) e;let g:=zVL 2 (mulI s d);let i:=jJS g f;let j:=aN g;bS (cZ (lH s d) (sJ 175 2 (mulI s d) [] j) (True/\True/\True/\lH a b/\aH (aBW b d []) (True/\aBW a s []/\lH (subI b d) (subI a s)/\sJ 175 2 h [] (aN e)/\kV (aBW (mulI a b) e []) (True/\True/\True/\True/\bY (jZ (aI (2*s.hi)) a.lo) (j=c) (aBS (decide (aI (2*s.hi)<=a.lo)) (bY (nE (aI (2*s.lo)) a.hi) (aN f=c) (gT (aI (2*s.lo)) a.hi->aH (iP 221 g [aN f] i) (aN i=c)))))))))) ?_;delta eS bY cZ aI aH nE gT bS kV jZ aBS aN iP zE sJ lH aBW;simp only [sS];refine ⟨zZq s d,zKy 2 _,zZq a b,zJe b d,zJe a s,zZq _ _,zKy 2 _,zJe _ _,λh=>?_,λh=>⟨λh2=>?_,λh2=>⟨jYY _ _,?_⟩⟩⟩
  ·unfold jQm; rw [if_pos h]; exact ⟨rfl,rfl⟩
  ·unfold jQm; rw [if_neg h,if_pos h2]; exact ⟨rfl,rfl⟩
  ·unfold jQm; rw [if_neg h,if_neg h2]; exact ⟨rfl,rfl⟩
def aIA:RV:=RV.agg [DV.int IntKind.i64 0,DV.int IntKind.i64 1099511627776]
theorem jXr (d:Iv) (lz:Unit):Ans prog 224 [rA [dJ d.lo,dJ d.hi],rA [dJ 0,dJ 0]] (rA [dJ 0,dJ 1099511627776]):=
 zQa (Γ:=zXH) (cT (mQ true)) zQb Tryz.func224 rfl (nL rfl) λhwf=>by
  refine Eq.mpr (by kernel_rfl:_=(True/\lX (jZ 0 0) (eS aIA))) ?_;delta eS aK lX jZ aIA;simp only [sS];exact Int.le_refl 0
theorem jYW (s a d:Iv) (lz:Unit):Ans prog 174 [rA [dJ s.lo,dJ s.hi],rA [dJ a.lo,dJ a.hi],rA [dJ d.lo,dJ d.hi],rA [dJ 0,dJ 0]] (rA [dJ 0,dJ 0]):=
 zQa (Γ:=zXH) (eF (xE true)) zQb Tryz.func174 rfl (nL rfl) λhwf=>by
  refine Eq.mpr (by kernel_rfl:_=(aV (xD (Ans prog 224 [aN d,mS] aIA) (lX (nE (aX 1099511627776 0) 137438953472) (aM (zE a [mS] ⟨0,0⟩) (rA [DV.int IntKind.i64 0,DV.int IntKind.i64 (mulI a ⟨0,0⟩).hi]=mS)))))) ?_;delta eS aI aK aX lX aM nE aV aN mS iP zE xD aIA;simp only [sS];exact ⟨jXr d (),by decide,zZq a ivZ,congrArg Iv.hi (zZ7 a)⟩
def aED (a b:Prop):Prop:=True/\a/\True/\eS true/\b
def uH (a b:Iv):RV:=aN (zZK a (mulI b ⟨0,0⟩).hi)
def aFV (a b:Iv) (c:List RV) (e:Prop):Prop:=aED (iP 58 a (RV.d (DV.int IntKind.i64 (mulI b ⟨0,0⟩).hi)::c) (zZK a (mulI b ⟨0,0⟩).hi)) e
def aEC (a:Prop) (b:Iv) (c:List RV) (d:Int) (e:Iv) (f:List RV) (g:Prop):Prop:=pR a (zE b c ⟨d,d⟩) (aFV e b f g)
def aBX (a b:Int) (c:List RV) (d:RV):Prop:=Ans prog 58 (RV.agg [DV.int IntKind.i64 a,DV.int IntKind.i64 b]::c) d
theorem jY1 (mode:Int) (s a d:Iv) (lz:Unit):Ans prog 95 [rJ (mode),rA [dJ s.lo,dJ s.hi],rA [dJ a.lo,dJ a.hi],rA [dJ d.lo,dJ d.hi],rA [dJ 0,dJ 0]] (rA [dJ 0,dJ 0]):=
 zQa (Γ:=zXH) aL zQb Tryz.func95 rfl (nL rfl) λhwf=>by
  refine Eq.mpr (by kernel_rfl:_=(let b:=(⟨0,0⟩:Iv);let r:=mulI a b;let t:=aN (zZK b r.hi);let u:=qY r.hi;let v:=aED (Ans prog 58 (mS::u) t) (t=mS);let c:=[mS];let j:=zE a c b;let e:=zZK d 0;let f:=zZK s a.hi;let h:=mulI f e;let n:=zVL 2 h;let i:=mulI e a;let k:=addI (mulI f b) i;let w:=subI k n;let o:=lH f e;let g:=mulI f b;let x:=aBV g e a [];let y:=g.lo;let z:=i.hi;let A:=i.lo;let B:=g.hi;let C:=Max.max (aX B A) (aX z y);let D:=Max.max (Max.max (aX y z) (aX A B)) (0:Int);let E:=uH ⟨D,C⟩ a;let l:=lowI g i;let m:=jVI g i;let F:=[aN i];let G:=iP 172 g F l;let H:=iP 173 g F m;let I:=aN e::c;let J:=aN f;let p:=jQm f a e b;let q:=jQm e b f a;let K:=subI k h;aG (aM (iP 58 s [rD (DV.int IntKind.i64 a.hi)] (zZK s a.hi)) (kV (iP 58 d (qY 0) (zZK d 0)) (aH (zE f c b) (aK (lH e a) (aH (eS true) (kZ mode 1 (True/\True/\True/\j/\aFV g a [] (uH g a=mS)) (cR (mode==1) (dC mode 2 (aEC o a c 0 h [] (uH h a=mS))) (dU mode 2 (gJ mode 3 (aK x (o/\aBW k h []/\True/\eS true/\True/\True/\True/\j/\aFV K a [] (uH K a=mS)))) 3 (eW mode 4 (aEC (iP 171 e [mS,J,aN a] q) a c 0 q [] (uH q a=mS))) (dU mode 4 (dC mode 5 (aEC G a c 0 l [] (uH l a=mS))) 5 (dC mode 6 (aEC H a c 0 m [] (uH m a=mS))) (dU mode 6 (eW mode 9 (aEC (iP 171 f (aN a::I) p) a c 0 p [] (uH p a=mS))) 9 (eW mode 10 (pR (Ans prog 174 (J::aN a::I) mS) (zE a c b) v)) (dU mode 10 (gJ mode 11 (True/\H/\True/\True/\G/\aBW m l []/\lY (aG (aG (aG (True/\True/\True/\j/\aED (aBX D C u E) (E=mS))))))) 11 (dC mode 12 (aH x (True/\o/\sJ 175 2 h [] (aN n)/\aBW k n []/\True/\eS true/\True/\True/\True/\j/\aFV w a [] (uH w a=mS)))) (dX ((mode==12)=false) j v)))))))))))))) ?_;delta eS bY aI aG aH aK aX eW dX lY gJ aM qY cR dC dU pR kV kZ aN mS iP zE aED sJ lH uH aBW aFV aEC aBX aBV;simp only [sS];have zz:∀ x,zZK x (mulI a ivZ).hi=ivZ:=λx=>by rw [zZ7]; exact jVS x
  have MZ:=λx=>zZq x ivZ;have S:=jYW (zZK s a.hi) a (zZK d 0) ();have H1:=zU4 (zZK d 0) ivZ (zZK s a.hi) a;have H2:=zU4 (zZK s a.hi) a (zZK d 0) ivZ
  (repeat' (first | apply And.intro | intro _))<;>first | exact zZq _ _ | exact MZ _ | exact zZv _ _ | exact congrArg Iv.lo (zz _) | exact congrArg Iv.hi (zz _) | exact zZv d 0 | exact zJf _ _ | exact zJe _ _ | exact jJ8 _ _ | exact jYZ _ _ | exact S | exact H1 | exact H2 | exact zKy 2 _ | exact zZv ⟨_,_⟩ _ | exact zZv ivZ _
theorem jYV (n m:Int) (h0:0<=n) (h1:1<=m):Ans prog 102 [rD (dK n),rD (dK m)] (rA [dJ ((zQt n m).lo),dJ ((zQt n m).hi)]):=
 zQa (Γ:=zXH) aL zQb Tryz.func102 rfl (nL rfl) λhwf=>by
  refine Eq.mpr (by kernel_rfl:_=(let a:=oX (aI n) (aI m) true;let b:=oX (aI n) (aI m) false;dP (aFZ 177 (aI n) (aI m) (oW b a)) (aG (aN (zQS b a).fst=aN (zQt n m))))) ?_;delta eS aI aG dP aB aFZ aN oV oW oX;simp only [sS];simp only [RV.wfs,RV.wf,DV.wf,DV.wfs] at hwf;have mi:IntKind.min .i64 = -9223372036854775808:=rfl;have ma:IntKind.max .i64=9223372036854775807:=rfl;have mj:IntKind.min .u16=0:=rfl;have mb:IntKind.max .u16=65535:=rfl;simp only [mi,ma,mj,mb] at hwf;obtain ⟨⟨n0,n1⟩,⟨m0,m1⟩,_⟩:=hwf;rw [zVZ (n:=n) (by omega) (by omega),zVZ (n:=m) (by omega) (by omega)];exact ⟨jV1 n m ⟨by omega,by omega⟩ ⟨by omega,by omega⟩,rfl,rfl⟩
def qE (a b:RV) (c:Int) (d e:Iv):Prop:=aGA a b (aN (facI c d e).fst) (aN (facI c d e).snd)
theorem zVh (op:Int) (a b:Iv):Ans prog 98 [rJ (op),rA [dJ a.lo,dJ a.hi],rA [dJ b.lo,dJ b.hi]] (rT [rA [dJ (((facI op a b).1).lo),dJ (((facI op a b).1).hi)],rA [dJ (((facI op a b).2).lo),dJ (((facI op a b).2).hi)]]):=
 zQa (Γ:=zXH) aL zQb Tryz.func98 rfl (nL rfl) λhwf=>by
  refine Eq.mpr (by kernel_rfl:_=(let c:=aN (notI a);let d:=aN (notI b);let e:=iP 94 a [] (notI a);let f:=iP 94 b [] (notI b);let g:=Ans prog 170 [] aHK;aV (iV (dC op 2 (g/\dA (qE aHK mS op a b))) (cR (op==2) (gJ op 3 (kV g (qE mS aHK op a b))) (dU op 3 (dC op 4 (iK g (kV e (qE aHK c op a b)))) 4 (gJ op 5 (cG f g (qE d aHK op a b))) (dU op 5 (gJ op 6 (dA (qE (aN b) mS op a b))) 6 (gJ op 7 (dA (qE mS (aN a) op a b))) (cR (op==7) (bL ((op==8)=true) f (dA (qE d mS op a b))) (dU op 8 (eW op 9 (kV e (qE mS c op a b))) 9 (eW op 10 (kV e (qE (aN b) c op a b))) (dU op 10 (bL ((op==11)=true) f (dA (qE d (aN a) op a b))) 11 (gJ op 12 (iK f (kV e (qE d c op a b)))) (nA op 12 (dA (rT [mS,mS]=rT [aN (facI op a b).fst,aN (facI op a b).snd])))))))))))) ?_;delta eS eW gJ nA cG dA iV bL iK cR dC dU aV kV aN mS iP aGA qE aHK;simp only [sS]
  (repeat' (first | apply And.intro | intro _))<;>first | exact zH4 | exact zWk _ | (simp_all [facI,ivU,ivZ]; done)
theorem jXt (op:Int) (a b:Iv):Ans prog 99 [rJ (op),rA [dJ a.lo,dJ a.hi],rA [dJ b.lo,dJ b.hi]] (rA [dJ ((zU0 op a b).lo),dJ ((zU0 op a b).hi)]):=
 zQa (Γ:=zXH) aL zQb Tryz.func99 rfl (nL rfl) λhwf=>by
  refine Eq.mpr (by kernel_rfl:_=(let c:=(facI op a b).snd;let d:=(facI op a b).fst;let e:=addI (mulI d a) (mulI c b);jC (sJ 98 op a [aN b] (rT [aN d,aN c])) (aG (lH d a/\True/\True/\lH c b/\aBV (mulI d a) c b []/\aCD e []/\True/\eS true/\aN (pH e)=aN (zU0 op a b))))) ?_;delta eS aG aH jC aN iP zE sJ lH aBV pH aCD;simp only [sS];exact ⟨zVh op a b,zZq _ a,zZq _ b,zJf _ _,zZv _ _,rfl,rfl⟩
theorem jXq (op:Int) (f g:Iv):Ans prog 100 [rJ (op),rA [dJ f.lo,dJ f.hi],rA [dJ g.lo,dJ g.hi]] (rA [dJ ((zWz op f g).lo),dJ ((zWz op f g).hi)]):=
 zQa (Γ:=zXH) aL zQb Tryz.func100 rfl (nL rfl) λhwf=>by
  refine Eq.mpr (by kernel_rfl:_=(let a:=aN (zWz op f g);let m:=mS=a;let b:=gV (op==7) m;let c:=aH (lH f g) (aN (mulI f g)=a);let d:=dC op 7 c;let n:=gV (op==6) m;let o:=dC op 6 c;let e:=dC op 6 (o/\n);let h:=aH (iP 97 f [aN g] (zWr f g)) (aN (zWr f g)=a);let p:=dC op 12 h;let q:=dC op 5 (dC op 5 h/\dU op 5 e 6 d b);let i:=dC op 4 (dC op 4 h/\dU op 4 e 6 d b);let j:=aN g=a;let k:=dU op 9 (eW op 10 j) 10 i (dU op 4 q 5 p (dU op 12 e 6 d b));let r:=dU op 4 q 5 p (dU op 12 (dC op 6 (o/\n)) 6 (dC op 7 c) b);let s:=cR (op==9) i r;let t:=eW op 9 j;let u:=cR (op==3) i r;let v:=eW op 3 j;let l:=aN f=a;let w:=dC op 9 (t/\s);let x:=dC op 3 (v/\u);aV (nN op 2 (eW op 2 l/\dU op 2 x 3 w k) (dU op 2 (dC op 8 (eW op 8 l/\dU op 8 x 3 w k)) 8 (eW op 11 l) (dU op 11 (dC op 3 (v/\u)) 3 (dC op 9 (t/\s)) k))))) ?_;delta eS aH eW gV cR dC dU aV nN aN mS iP zE lH;simp only [sS]
  (repeat' (first | apply And.intro | intro _))<;>first | exact jXp _ _ | exact zZq _ _ | (simp_all [zWz,ivZ]; done)
end
def zGj (l:List Oq):Oq:=(l[0]?).getD popO
theorem jVV {mode s a:Int}:(zQi mode s a 0 0).p=0/\(zQi mode s a 0 0).q=0:=by
 have e1:zKs 0 0 s a=0:=by simp [zKs]
 have e2:zKs s a 0 0=0:=by unfold zKs; split<;>simp
 unfold zQi;simp only [e1,e2,zJx,zZj,wQ9,Int.zero_mul,if_true,wXX,wZJ]
 repeat' (split<;>try (exact ⟨by first | rfl | omega,rfl⟩))
theorem jYM (op a m:Int):facA op a 0 m=if faB op=true then m else 0:=by
 unfold facA faB;simp only [wQh,wXX]
 repeat' (split<;>try (first | rfl | omega))
theorem jVX {op a m:Int} (hm:0<m):zXF op a 0 m=if faB op=true then a else 0:=by
 unfold zXF;rw [jYM,wQ9,wZJ];split
 ·exact zYb hm
 ·rw [Int.zero_mul]; exact zWT hm
theorem jVi {op f m:Int} (hm:0<m):zYz op f 0 m=if faB op=true then f else 0:=by
 unfold zYz faB;rw [wQ9,wZJ,zYb hm,wQ9,zWT hm];simp only [wQh]
 repeat' (split<;>try (first | rfl | omega))
theorem jXf {op mode m s a:Int} (hm:0<m) (h0:0<=s) (h1:s<=a):colS op mode m s a 0 0=if faB op=true then s else 0:=by
 have ⟨e1,e2⟩:=@jVV mode s a;have hd:=(zZk (mode:=mode) h0 h1 (Int.le_refl 0) (Int.le_refl 0)).ok.d;unfold colS;refine Ex.half_whole ?_ ?_ ?_
 ·exact wZi (wZi hm hm) hd
 ·simp only [valS,e2,wQ9]
 ·simp only [valS,e1,jYM];split<;>grind
def zKJ (op:Int) (p:Px):Px:=if faB op=true then p else .zero
theorem jGW {op mode m:Int} {p:Px} {k:Px} (hm:0<m) (hp:p.ok m=true) (hn:p.nn):accS false op mode m p .zero k=⟨(zKJ op p).a,(zKJ op p).b,(zKJ op p).c,(zKJ op p).al,(zKJ op p).al,(zKJ op p).f⟩:=by
 obtain ⟨h1,h2,h3,h4,h5⟩:=Px.ok_iff.1 hp;obtain ⟨n1,n2,n3⟩:=hn;unfold accS;simp only [Ac.zero,wQQ,if_false];rw [jXf hm n1 h1,jXf hm n2 h2,jXf hm n3 h3,jVX hm,jVi hm];unfold zKJ;split<;>rfl
theorem jQC {m:Int} (hm:0<m) (p:Px):zXg p m m=p:=by
 unfold zXg;rw [wQy p.a,wQy p.b,wQy p.c,wQy p.al,wQy p.f];simp only [zYb hm]
theorem jZT {op m:Int} {p:Px} (hm:0<m) (hp:p.ok m=true) (hn:p.nn):(zKJ op p).ok m=true/\(zKJ op p).nn:=by
 unfold zKJ;split
 ·exact ⟨hp,hn⟩
 ·exact zKb (by omega)
theorem jZF {m c own:Int} (hm:0<m) (h0:0<=c) (h1:c<=own):remS m c own 0=c:=by
 unfold remS;simp only [wQ9,wXX,zYb hm]
 rcases Int.lt_or_eq_of_le h0 with h | h
 ·rw [if_pos (wZi hm h)]; omega
 ·subst h; simp
theorem jWO {m:Int} {ms:List Im} (hi:zJI m ms) {o:Oq} (hk:o.kind=1) (h0:o.mask=0) (h1:o.opac=m) (h2:isNm o.oper=true) (h3:isNm o.mode=true) (x y:Int) :
  zJN m ms x y [o]=zKJ o.oper (srcS ms o x y):=by
 obtain ⟨hp,hn⟩:=zUN hi o x y;have hm:=(zQ4 hi.full).1;generalize hs:srcS ms o x y=p at *;have sb:zX5 p m m=true:=by simp [zX5,hi.full,hp]
 have e1:zZZ m o p (zX7 ms o x y)=(p,true):=by
  unfold zZZ zJH zZS;rw [if_pos h0,h1,jQC hm,if_pos sb,if_pos sb,jQC hm]
 have hk0:(Px.zero).ok m=true:=(zKb (wZm hm)).1;have e2:zVQ m [zZR] o p=true:=by
  have a0:(Ac.zero).ok .zero m=true:=Ac.ok_iff.2 ⟨by decide,hi.full,by simp [Ac.zero]; omega,hk0,rfl⟩;simp only [zVQ,topL,zZ4,wYo];change (isNm o.oper&&(isNm o.mode&&((Ac.zero).ok .zero m&&(p.ok m && !(false&&decide (o.oper≠4))))))=true;rw [h2,h3,a0,hp]; rfl
 have e3:runM m ms x y [o] [zZR]=[⟨zZR.op,accS false o.oper o.mode m p .zero .zero,.zero⟩]:=by
  have:runM m ms x y [o] [zZR]=jVP m [zZR] o p (zX7 ms o x y):=by simp [runM,zJi,hk,hs]
  rw [this];unfold jVP;rw [if_pos ⟨hk,by rw [e1]⟩,e1];unfold zJ0;rw [if_pos e2]; rfl
 have e4:=jGW (op:=o.oper) (mode:=o.mode) (k:=.zero) hm hp hn;obtain ⟨ok1,nn1⟩:=jZT (op:=o.oper) hm hp hn;obtain ⟨q1,q2,q3,q4,q5⟩:=Px.ok_iff.1 ok1;obtain ⟨n1,n2,n3⟩:=nn1;have e5:resB m ⟨zZR.op,accS false o.oper o.mode m p .zero .zero,.zero⟩=true:=by
  unfold resB;rw [e4];exact Ac.ok_iff.2 ⟨⟨q1,q2,q3⟩,hi.full,⟨Int.le_refl _,q4,by simp only; omega,q5⟩,hk0,rfl⟩
 unfold zJN;simp only;rw [e3];simp only [wYo,Nat.lt_irrefl,if_false,wZR,wQF];unfold resL;rw [if_pos e5];unfold zZ0;simp only [e4];have z1:(Px.zero).a=0:=rfl;have z2:(Px.zero).b=0:=rfl;have z3:(Px.zero).c=0:=rfl;rw [z1,z2,z3,jZF hm n1 q1,jZF hm n2 q2,jZF hm n3 q3]
section
attribute [local irreducible] Ans AnsO AnsG AnsN AnsI
end
structure Mc where
  at_:Int
  kind:Int
  inp:Px
  back:Px
  k:Int
  out:Px
def Mc.cells (t:Mc):List DV:=[.int .i64 t.at_,.int .i64 t.kind]++(t.inp.ds++(t.back.ds++([.int .u16 t.k]++t.out.ds)))
theorem yQz {m:Im} {x y dx dy:Int} (h:¬ (x<dx\/y<dy\/x-dx>=1099511627776\/y-dy>=1099511627776)):zJE m x y dx dy=m.at_ (x-dx) (y-dy):=by
 unfold zJE; rw [if_neg h]
theorem jYp {ms:List Im} {i:Int} {x y dx dy:Int} (h0:0<=i) (h:i.toNat<ms.length):zJ5 ms i x y dx dy=zJE ms[i.toNat] x y dx dy:=by
 unfold zJ5; rw [if_pos h0,List.getElem?_eq_getElem h]
theorem jQ3 {ms:List Im} {i:Int} {x y dx dy:Int} (h:¬ (0<=i/\i<ms.length)):zJ5 ms i x y dx dy=.zero:=by
 unfold zJ5;split
 ·rename_i h0;rw [wQO (by omega)]
 ·rfl
section
attribute [local irreducible] Ans AnsO AnsG AnsN AnsI
def jJX:Gam:=zXH.add [.p 195 (λ| [.d (.int _ op)]=>some (RV.d (dQ (zZl op))) | _=>none),
 .p 256 (λ| [.d (.int _ v)]=>some (RV.d (dQ (farB v))) | _=>none),
 .p 236 (λ| [.agg [.int _ bits,.int _ cx0,.int _ cy0,.int _ cx1,.int _ cy1,.int _ tw,.int _ th,.sl on oxs,.sl mn mxs,.sl pn pxs],.d (.int _ i),.d (.int _ x),.d (.int _ y)]=>some (RV.agg (qD (zXd (⟨bits,⟨cx0,cy0,cx1,cy1⟩,tw,th,ints oxs,zQI mxs,zQl pxs⟩:Scr) i x y))) | _=>none),
 .p 197 (λ| [.agg [.int _ bits,.int _ cx0,.int _ cy0,.int _ cx1,.int _ cy1,.int _ tw,.int _ th,.sl on oxs,.sl mn mxs,.sl pn pxs],.agg [.int _ okind,.int _ oimage,.int _ ox,.int _ oy,.int _ omask,.int _ omx,.int _ omy,.int _ oopac,.int _ ooper,.int _ omode,.bool oiso,.bool okno]]=>some (RV.agg (qD (imgR (⟨bits,⟨cx0,cy0,cx1,cy1⟩,tw,th,ints oxs,zQI mxs,zQl pxs⟩:Scr) (⟨okind,oimage,ox,oy,omask,omx,omy,oopac,ooper,omode,oiso,okno⟩:Oq)))) | _=>none),
 .p 235 (λ| [.agg [.int _ bits,.int _ cx0,.int _ cy0,.int _ cx1,.int _ cy1,.int _ tw,.int _ th,.sl on oxs,.sl mn mxs,.sl pn pxs],.agg [.int _ okind,.int _ oimage,.int _ ox,.int _ oy,.int _ omask,.int _ omx,.int _ omy,.int _ oopac,.int _ ooper,.int _ omode,.bool oiso,.bool okno]]=>some (RV.agg (qD (jQj (⟨bits,⟨cx0,cy0,cx1,cy1⟩,tw,th,ints oxs,zQI mxs,zQl pxs⟩:Scr) (⟨okind,oimage,ox,oy,omask,omx,omy,oopac,ooper,omode,oiso,okno⟩:Oq)))) | _=>none),
 .p 210 (λ| [.agg [.int _ bits,.int _ cx0,.int _ cy0,.int _ cx1,.int _ cy1,.int _ tw,.int _ th,.sl on oxs,.sl mn mxs,.sl pn pxs],.agg [.int _ okind,.int _ oimage,.int _ ox,.int _ oy,.int _ omask,.int _ omx,.int _ omy,.int _ oopac,.int _ ooper,.int _ omode,.bool oiso,.bool okno],.agg [.int _ ra,.int _ rb,.int _ rc_,.int _ rd]]=>some (RV.agg (qD (boxF (⟨bits,⟨cx0,cy0,cx1,cy1⟩,tw,th,ints oxs,zQI mxs,zQl pxs⟩:Scr) (⟨okind,oimage,ox,oy,omask,omx,omy,oopac,ooper,omode,oiso,okno⟩:Oq) ⟨ra,rb,rc_,rd⟩))) | _=>none)]
theorem zZr (op:Int):Ans prog 195 [rJ (op)] (rD (dQ (zZl op))):=
 zQa (Γ:=jJX) aL zQb Tryz.func195 rfl (nL rfl) λhwf=>by
  refine Eq.mpr (by kernel_rfl:_=(let a:=zX4 op 3;let c:=bY ((a==2)=false) (aBN (a==3) (zZl op)) (zA (a==2) (oN (zZl op)));let b:=zX4 op 2;True/\dN (fC 216 op (dG (DV.str (zZt op)::zO (zX4 op 1) b a) (rO op))) (fZ (rO op=true->True/\pT (b==1) (True/\True/\oL (b==3) c (eM (zZl op))) (fP (b==1) false c)) (jJ (rO op) true (zZl op))))) ?_;delta eS bY aK dN jG aB fZ fC fP pT mP oL eM jJ rO oN zA aBN nT dG zO;simp only [sS,zQe,zQq];by_cases h:1<=op/\op<13
  ·rcases zYT h with rfl | rfl | rfl | rfl | rfl | rfl | rfl | rfl | rfl | rfl | rfl | rfl<;>decide +kernel
  ·have h2:zZl op=false:=by unfold zZl; simp; omega
   simp [h,h2]
theorem zYw (v:Int):Ans prog 256 [rJ (v)] (rD (dQ (farB v))):=
 zQa (Γ:=jJX) aL zQb Tryz.func256 rfl (nL rfl) λhwf=>by
  refine Eq.mpr (by kernel_rfl:_=(let a:=(-(1099511627776:Int));True/\gP (decide (v<a)=false) (aB (aHJ v)=aB (farB v)) (mN v a false->True/\True/\oN (farB v)))) ?_;delta eS mN aB gP oN aHJ;simp only [sS,zQe,zQq,zZr];unfold farB;grind
def qA (a:Scr):Nat:=List.length a.ims
def fG (a:Scr):List DV:=ims a.ims
def jM (a:Scr) (b:Nat):Prop:=bQ (ims a.ims) b
def iA (a:Scr) (b:Nat):Prop:=jM a (cP b)
def kI (a:Scr) (b:Nat):Prop:=jM a (gB b)
def iF (a:Scr) (b:Nat):Prop:=(fG a)[fX b]?=nK (fG a) (fX b)
def sI (a:Scr) (b:Nat):Prop:=jM a (eU b)
def wZ (a:Scr) (b c:Nat):Prop:=bD (fG a) b (aU (fG a) c)
abbrev wXY:=@of_decide_eq_false
abbrev sD (q:Scr):List DV:=[DV.int .i64 q.bits,DV.int .i64 q.c.a,DV.int .i64 q.c.b,DV.int .i64 q.c.c,DV.int .i64 q.c.d,DV.int .i64 q.tw,DV.int .i64 q.th,DV.sl q.ord.length (is q.ord),DV.sl q.ims.length (ims q.ims),DV.sl q.ops.length (ops q.ops)]
theorem zJ9 (s:Scr) (i x y:Int):Ans prog 236 [rA (sD s),rJ (i),rJ (x),rJ (y)] (rA (qD (zXd s i x y))):=
 zQa (Γ:=jJX) aL zQb Tryz.func236 rfl (nL rfl) λhwf=>by
  refine Eq.mpr (by kernel_rfl:_=(let c:=cU (zXd s i x y);let k:=True/\True/\zN=c;let h:=zN=c;let b:=fG s;let d:=nAt b (aY i 28);let l:=farB d;let e:=jH b i 28;let m:=aI (y+e);let n:=aI (x+d);let o:=cU (Rc.inter ⟨x,y,n,m⟩ s.c);let p:=farB e;let a:=aY i 28;let j:=eU a;let q:=eU j;let f:=kJ a;let g:=bU (aY i 28);let r:=cI (bU a);dP (fV i 0 (True/\True/\bY (fQ i (qA s:Int)) h (fK i (qA s:Int) (True/\True/\cG (lS i (qA s) 28 b) (cL (jR b i 28) (oG b i 28) (kG b (nS i 28)) (bD b (lG i 28) (gE b i 28)) (mR b a) (wZ s (cP (aY i 28)) (kE i 28)) (wZ s r (nS i 28)) (zC b a) (cL (jM s g) (iA s a) (jM s r) (iF s a) (sI s a) (iA s g) (kI s a) (iF s g) (cL (jM s (kJ a)) (iA s (eU a)) (kI s g) (iF s (eU a)) (sI s j) (iA s f) (kI s j) (iF s f) (aF (sI s f) (iA s q) (kI s f) (iF s q))))) (True/\fC 256 x (aB (farB x))/\True/\(farB x=false->True/\fC 256 y (aB (farB y))/\True/\True/\gV (farB y) (fC 256 d (aB (farB d))/\True/\True/\(l=false->True/\True/\fC 256 e (aB (farB e))/\True/\qW p h/\(p=false->True/\True/\True/\aG (aH (Ans prog 157 [lB x y n m,cU s.c] o) (o=c))))/\jG l k)/\jG (farB y) (bX zN c))/\jG (farB x) (bS h)))))) (lU i->eZ k))) ?_;delta eS aY bY mN fK lS jR lU aE aI aF aG aH bD cG bX gV qW jG dP cL eZ kS aU fY bQ fV jH gE oG aB cI bU sM lB cP bS nK cU kG fC qA fG fQ jM fX mR gB eU iA kE kI zC nS lG kJ iF sI wZ zN;simp only [sS,zQe,zQq,zZr,zYw]
  (try simp only [zJy,zYP,zZF,zQ5,zQw])
  have hsE:(⟨s.bits,s.c,s.tw,s.th,s.ord,s.ims,s.ops⟩:Scr)=s:=rfl
  (try simp only [hsE])
  clear hsE;have hfw:∀ a b:Int,farB a=false->farB b=false->wrap .i64 (a+b)=a+b:=λa b h1 h2=>by
   unfold farB at h1 h2;have h1:=wXY h1;have h2:=wXY h2;exact wQb _ ⟨by omega,by omega⟩
  have z:zXd s i x y=Rc.zero->0=(zXd s i x y).a/\0=(zXd s i x y).b/\0=(zXd s i x y).c/\0=(zXd s i x y).d:=λh=>by rw [h]; exact ⟨rfl,rfl,rfl,rfl⟩
  refine ⟨λh0=>⟨λh1=>z (zG7 x y (.inr h1)),λh1=>?_⟩,λh0=>z (zG7 x y (.inl h0))⟩;have hk:i.toNat<s.ims.length:=by omega
  have e:=jQU x y (show 0<=i by omega) hk;have q1:=zHq hk;have q2:=zHr hk;simp only [q2];have fin:farB x=false->farB y=false->farB s.ims[i.toNat].w=false->farB s.ims[i.toNat].h=false->Rc.inter ⟨x,y,wrap .i64 (x+s.ims[i.toNat].w),wrap .i64 (y+s.ims[i.toNat].h)⟩ s.c=zXd s i x y:=λf1 f2 f3 f4=>by
   rw [e,hfw _ _ f1 f3,hfw _ _ f2 f4,f1,f2,f3,f4]; rfl
  refine ⟨⟨by omega,by omega,by rw [zY2]; omega⟩,q1,λf1=>⟨λf2=>⟨λf3=>⟨λf4=>z (by rw [e,f4]; simp),λf4=>?_⟩,λf3=>z (by rw [e,f3]; simp)⟩,λf2=>z (by rw [e,f2]; simp)⟩,λf1=>z (by rw [e,f1]; simp)⟩;rw [<- fin f1 f2 f3 f4];exact ⟨zQq _ _ _ _ _ _ _ _,rfl,rfl,rfl,rfl⟩
def dV (a:Scr):Nat:=List.length a.ops
def fD (a:Scr):List DV:=ops a.ops
def aGD (a:Scr) (b:Nat) (c:List DV):List DV:=DV.sl (List.length a.ord) (is a.ord)::tU (qA a) (fG a) b c
def mL (e:Scr):List DV:=iS e.bits e.c.a e.c.b e.c.c e.c.d e.tw e.th (aGD e (dV e) (fD e))
def qL (a:Scr) (b:Rc):Scr:=⟨a.bits,b,a.tw,a.th,ints (is a.ord),zQI (fG a),zQl (fD a)⟩
theorem zVG (s:Scr) (o:Oq):Ans prog 197 [rA (sD s),rA (oD o)] (rA (qD (imgR s o))):=
 zQa (Γ:=jJX) aL zQb Tryz.func197 rfl (nL rfl) λhwf=>by
  refine Eq.mpr (by kernel_rfl:_=(let a:=cU (zXd (qL s s.c) o.image o.x o.y);aV (bY ((o.kind !=1)=true) (zN=cU (imgR s o)) ((o.kind !=1)=false->True/\jC (bF 236 (mL s) (yB o.image::iN o.x o.y []) a) (a=cU (imgR s o)))))) ?_;delta eS bY yB aH iQ iS bF aV sM lB iN tU cU qA dV fG fD aGD mL jC qL zN;simp only [sS,zQe,zQq,zZr,zYw]
  (try simp only [zJy,zYP,zZF,zQ5,zQw])
  have hsE:(⟨s.bits,s.c,s.tw,s.th,s.ord,s.ims,s.ops⟩:Scr)=s:=rfl
  (try simp only [hsE])
  clear hsE;refine ⟨λh=>?_,λh=>?_⟩
  ·have h:¬ o.kind=1:=by simpa using h
   unfold imgR;rw [if_neg h];exact ⟨rfl,rfl,rfl,rfl⟩
  ·have h:o.kind=1:=by simpa using h
   unfold imgR;rw [if_pos h];exact ⟨zJ9 s o.image o.x o.y,rfl,rfl,rfl,rfl⟩
theorem zWe (s:Scr) (o:Oq):Ans prog 235 [rA (sD s),rA (oD o)] (rA (qD (jQj s o))):=
 zQa (Γ:=jJX) aL zQb Tryz.func235 rfl (nL rfl) λhwf=>by
  refine Eq.mpr (by kernel_rfl:_=(let c:=cU (jQj s o);let a:=o.mask;let d:=cU (zXd (qL s s.c) (aX a 1) o.mx o.my);let b:=Rc.inter s.c s.c;let e:=DV.int IntKind.i64 b.a::DV.int IntKind.i64 b.b::DV.int IntKind.i64 b.c::nI b.d;aV (kZ a 0 (aH (fR 157 (cU s.c) [cU s.c] e) (rA e=c)) (mA a->tH (kD a 0) (zN=c) (aAD a) (jC (bF 236 (mL s) (yB (aX a 1)::iN o.mx o.my []) d) (d=c)))))) ?_;delta eS bY tH aAD aI yB aH aX mA kD iQ iS nI bF aV sM lB iN tU cU qA dV fG fD aGD mL kZ fR jC qL zN;simp only [sS,zQe,zQq,zZr,zYw]
  (try simp only [zJy,zYP,zZF,zQ5,zQw])
  have hsE:(⟨s.bits,s.c,s.tw,s.th,s.ord,s.ims,s.ops⟩:Scr)=s:=rfl
  (try simp only [hsE])
  clear hsE;refine ⟨λh=>?_,λh=>⟨λh2=>?_,λh2=>?_⟩⟩
  ·have h:o.mask=0:=by simpa using h
   unfold jQj;rw [if_pos h];exact ⟨zQq _ _ _ _ _ _ _ _,rfl,rfl,rfl,rfl⟩
  ·have h:¬ o.mask=0:=by simpa using h
   unfold jQj;rw [if_neg h,if_pos h2];exact ⟨rfl,rfl,rfl,rfl⟩
  ·have h:¬ o.mask=0:=by simpa using h
   unfold jQj;rw [if_neg h,if_neg h2];simp only [RV.wfs,RV.wf,DV.wf,DV.wfs] at hwf;have hr : -9223372036854775808<=o.mask/\o.mask<=9223372036854775807:=hwf.2.1.2.2.2.2.1;rw [wQb _ ⟨by omega,by omega⟩];exact ⟨zJ9 s (o.mask-1) o.mx o.my,rfl,rfl,rfl,rfl⟩
theorem zVT (s:Scr) (o:Oq) (r:Rc):Ans prog 210 [rA (sD s),rA (oD o),rA [dJ r.a,dJ r.b,dJ r.c,dJ r.d]] (rA (qD (boxF s o r))):=
 zQa (Γ:=jJX) aL zQb Tryz.func210 rfl (nL rfl) λhwf=>by
  refine Eq.mpr (by kernel_rfl:_=(let a:=cU (boxF s o r);let c:=jQj (qL s s.c) o;let d:=cU (Rc.inter r c);let e:=cU c;let b:=zZl o.oper;bS (uY (fC 195 o.oper (aB b)) b (True/\True/\cU s.c=a) (gI b (kZ o.opac 0 (zN=a) ((o.opac==0)=false->True/\True/\True/\bF 235 (mL s) [rA (Oq.cells o)] e/\Ans prog 157 [cU r,e] d/\True/\eS true/\d=a)))))) ?_;delta eS bY iQ iS bF aB sM lB bS tU cU fC qA dV fG fD aGD mL kZ gI qH uY qL zN;simp only [sS,zQe,zQq,zZr,zYw]
  (try simp only [zJy,zYP,zZF,zQ5,zQw])
  have hsE:(⟨s.bits,s.c,s.tw,s.th,s.ord,s.ims,s.ops⟩:Scr)=s:=rfl
  (try simp only [hsE])
  clear hsE;refine ⟨λh=>?_,λh=>⟨λh2=>?_,λh2=>?_⟩⟩
  ·unfold boxF;rw [if_pos h];exact ⟨rfl,rfl,rfl,rfl⟩
  ·have h2:o.opac=0:=by simpa using h2
   unfold boxF;rw [if_neg (by rw [h]; decide),if_pos h2];exact ⟨rfl,rfl,rfl,rfl⟩
  ·have h2:¬ o.opac=0:=by simpa using h2
   unfold boxF;rw [if_neg (by rw [h]; decide),if_neg h2];exact ⟨zWe s o,zQq _ _ _ _ _ _ _ _,rfl,rfl,rfl,rfl⟩
def jHX:Gam:=jJX.add [.p 91 (λ| [.agg [.int _ w,.int _ h,.bool so,.int _ c0,.int _ c1,.int _ c2,.int _ ca,.int _ cf,.int _ w0,.int _ h0,.int _ s0,.sl n0 xs0,.int _ w1,.int _ h1,.int _ s1,.sl n1 xs1,.int _ w2,.int _ h2,.int _ s2,.sl n2 xs2,.int _ w3,.int _ h3,.int _ s3,.sl n3 xs3,.int _ w4,.int _ h4,.int _ s4,.sl n4 xs4],.d (.int _ x),.d (.int _ y),.d (.int _ dx),.d (.int _ dy)]=>some (RV.agg (pD (zJE ⟨w,h,so,⟨c0,c1,c2,ca,cf⟩,⟨w0,h0,s0,n0,xs0⟩,⟨w1,h1,s1,n1,xs1⟩,⟨w2,h2,s2,n2,xs2⟩,⟨w3,h3,s3,n3,xs3⟩,⟨w4,h4,s4,n4,xs4⟩⟩ x y dx dy))) | _=>none),
 .p 52 (λ| [.agg [.int _ bits,.int _ cx0,.int _ cy0,.int _ cx1,.int _ cy1,.int _ tw,.int _ th,.sl on oxs,.sl mn mxs,.sl pn pxs],.agg [.int _ okind,.int _ oimage,.int _ ox,.int _ oy,.int _ omask,.int _ omx,.int _ omy,.int _ oopac,.int _ ooper,.int _ omode,.bool oiso,.bool okno],.d (.int _ x),.d (.int _ y)]=>some (RV.tup [RV.agg (pD (srcS (zQI mxs) (⟨okind,oimage,ox,oy,omask,omx,omy,oopac,ooper,omode,oiso,okno⟩:Oq) x y)),RV.d (dK (zX7 (zQI mxs) (⟨okind,oimage,ox,oy,omask,omx,omy,oopac,ooper,omode,oiso,okno⟩:Oq) x y))]) | _=>none)]
theorem jY3 (m:Im) (x y dx dy:Int) (hu:m.isU):Ans prog 91 [rA (iD m),rJ (x),rJ (y),rJ (dx),rJ (dy)] (rA (pD (zJE m x y dx dy))):=
 zQa (Γ:=jHX) aL zQb Tryz.func91 rfl (nL rfl) λhwf=>by
  refine Eq.mpr (by kernel_rfl:_=(let a:=kR (zJE m x y dx dy);let b:=lW 0 0 0 0 0;let c:=b=a;let d:=dH (bH x) (bH dx);let e:=Im.at_ m (aX x dx) (aX y dy);let f:=dH (bH y) (bH dy);aV (bY (decide (x<dx)=false) (True/\True/\True/\fV y dy (True/\True/\True/\True/\gP (kX d 1099511627776) (bY (fQ f 1099511627776) c (fK f 1099511627776 (jC (yU 13 (imR m) (aX x dx) (aX y dy) e) (kR e=a)))) (jG (decide (d>=1099511627776)) (True/\True/\b=a)))/\(mN y dy false->eZ (bX b a))) (mN x dx false->eZ (bS c))))) ?_;delta eS bY mN fK aE aI aH dR aX lW bX jG kR eZ dB fV aV bS iN bH gP dH fQ kX fR yU jC;simp only [sS];simp only [RV.wfs,RV.wf,DV.wf,DV.wfs] at hwf;have mi:IntKind.min .i64 = -9223372036854775808:=rfl;have ma:IntKind.max .i64=9223372036854775807:=rfl;have mj:IntKind.min .u16=0:=rfl;have mb:IntKind.max .u16=65535:=rfl;simp only [mi,ma,mj,mb] at hwf;obtain ⟨_,⟨x0,x1⟩,⟨y0,y1⟩,⟨u0,u1⟩,⟨v0,v1⟩,_⟩:=hwf;have z:(x<dx\/y<dy\/x-dx>=1099511627776\/y-dy>=1099511627776)->0=(zJE m x y dx dy).a/\0=(zJE m x y dx dy).b/\0=(zJE m x y dx dy).c/\0=(zJE m x y dx dy).al/\0=(zJE m x y dx dy).f:=λh=>by
   unfold zJE; rw [if_pos h]; exact ⟨rfl,rfl,rfl,rfl,rfl⟩
  simp only [wZl];refine ⟨λh1=>⟨λh2=>⟨λh3=>⟨λh4=>z (by omega),λh4=>?_⟩,λh3=>z (by omega)⟩,λh2=>z (by omega)⟩,λh1=>z (by omega)⟩;rw [wQb (x-dx) ⟨by omega,by omega⟩,wQb (y-dy) ⟨by omega,by omega⟩,yQz (by omega)];exact ⟨zYx m _ _ hu,rfl,rfl,rfl,rfl,rfl⟩
def cN (a:Scr) (b:Nat):Int:=aU (ims a.ims) b
def gQ (a:Scr) (b:Nat):Int:=cN a (cP b)
def uG (a:Scr) (b c d:Nat):Pl:=⟨cN a b,gQ a c,cN a d,lAt (fG a) (fX c),cAt (fG a) (fX c)⟩
def iB (a:Scr) (b:Nat):Nat:=lAt (fG a) (fX b)
def iE (a:Scr) (b:Nat):List DV:=cAt (fG a) (fX b)
def kH (a:Scr) (b:Nat):Int:=cN a (gB b)
def sH (a:Scr) (b:Nat):Int:=cN a (eU b)
def zD (a:Scr) (b c:Nat):Pl:=uG a (eU b) c (gB b)
def aBR (a:List DV) (b:Int):RV:=RV.tup [RV.agg a,aP b]
theorem jQw (s:Scr) (o:Oq) (x y:Int) (hu:∀ m∈s.ims,m.isU):Ans prog 52 [rA (sD s),rA (oD o),rJ (x),rJ (y)] (rT [rA (pD (srcS s.ims o x y)),rD (dK (zX7 s.ims o x y))]):=
 zQa (Γ:=jHX) aL zQb Tryz.func52 rfl (nL rfl) λhwf=>by
  refine Eq.mpr (by kernel_rfl:_=(let k:=aBR (dB (srcS s.ims o x y)) (zX7 s.ims o x y);let l:=o.mask;let G:=decide (l>=1);let p:=(qA s:Int);let H:=decide (l<=p);let f:=aX l 1;let b:=aY f 28;let i:=kJ b;let h:=eU b;let I:=eU h;let C:=aY f 28;let g:=bU C;let J:=bU b;let v:=cI J;let K:=cN s (lG f 28);let w:=nS f 28;let L:=cN s w;let M:=kE f 28;let O:=cN s M;let P:=cN s b;let a:=fG s;let Q:=gE a f 28;let R:=bAt a w;let S:=jH a f 28;let T:=nAt a C;let m:=zJE (jB T S R Q P O L K (uG s J b v) (zD s b g) (uG s (bU h) h (gB g)) (zD s h i) (uG s (bU I) I (gB i))) x y o.mx o.my;let U:=m.al;let q:=eU h;let V:=kJ h;let r:=eU b;let W:=kJ b;let X:=fR 91 (oO T S R (kC Q P O L K (cN s g) (gQ s b) (cN s v) (iB s b) (iE s b) (cO (sH s b) (gQ s g) (kH s b) (iB s g) (iE s g) (cN s W) (gQ s r) (kH s g) (iB s r) (iE s r) (cO (sH s h) (gQ s i) (kH s h) (iB s i) (iE s i) (cN s V) (gQ s q) (kH s i) (iB s q) (iE s q) [])))) (iN x y (iN o.mx o.my [])) (pI m.a m.b m.c m.al m.f);let Y:=cL (jR a f 28) (oG a f 28) (kG a w) (bD a (lG f 28) (gE a f 28)) (mR a b) (wZ s (cP C) M) (wZ s v w) (zC a b) (cL (jM s g) (iA s b) (jM s v) (iF s b) (sI s b) (iA s g) (kI s b) (iF s g) (cL (jM s W) (iA s r) (kI s g) (iF s r) (sI s h) (iA s i) (kI s h) (iF s i) (aF (jM s V) (iA s q) (kI s i) (iF s q))));let Z:=lS f (qA s) 28 a;let D:=gP (fQ l 1) (aAY l p (True/\True/\True/\True/\cG Z Y (iY X (eS true) (bX (aBR oH U) k))) (aBS H (aBR oH 0=k))) (mB G (bX (aBR oH 0) k));let e:=o.image;let E:=aY e 28;let c:=bU E;let n:=kJ c;let j:=eU c;let d:=aY e 28;let z:=eU d;let z0:=bU d;let A:=cI z0;let z1:=cN s (lG e 28);let B:=nS e 28;let z2:=cN s B;let z3:=cN s (kE e 28);let z4:=cN s d;let z5:=gE a e 28;let z6:=bAt a B;let z7:=jH a e 28;let z8:=nAt a E;let F:=dB (zJE (jB z8 z7 z6 z5 z4 z3 z2 z1 (uG s z0 d A) (zD s d c) (zD s c z) (uG s (bU j) j (gB z)) (zD s j n)) x y o.x o.y);let z9:=aBR F 0;let t:=eU c;let y0:=kJ c;let u:=eU d;aV (True/\True/\True/\True/\kZ o.kind 1 (gP (fQ e 0) (gP (kD e p) (cG (lS e (qA s) 28 a) (cL (jR a e 28) (oG a e 28) (kG a B) (bD a (lG e 28) (gE a e 28)) (mR a d) (wZ s (cP E) (kE e 28)) (wZ s A B) (zC a d) (cL (jM s c) (iA s d) (jM s A) (iF s d) (sI s d) (iA s c) (kI s d) (iF s c) (cL (sI s c) (iA s u) (kI s c) (iF s u) (jM s y0) (iA s t) (kI s z) (iF s t) (aF (sI s j) (iA s n) (kI s j) (iF s n))))) (True/\True/\True/\True/\fH (fR 91 (oO z8 z7 z6 (kC z5 z4 z3 z2 z1 (cN s c) (gQ s d) (cN s A) (iB s d) (iE s d) (cO (sH s d) (gQ s c) (kH s d) (iB s c) (iE s c) (sH s c) (gQ s u) (kH s c) (iB s u) (iE s u) (cO (cN s y0) (gQ s t) (kH s z) (iB s t) (iE s t) (sH s j) (gQ s n) (kH s j) (iB s n) (iE s n) [])))) (iN x y (iN o.x o.y [])) F) (eS true) (gP (fQ l 1) (aAY l p (True/\True/\True/\True/\cG Z Y (iY X (eS true) (bX (aBR F U) k))) (aBS H (z9=k))) (mB G (bX z9 k))))) (fV e p D)) (yZ e 0 D)) (fP (o.kind==1) true D)))) ?_;delta eS aY bY lS jR aE aI aF aP dR bD aX pI kD cG mB bX cL kS aU fY bQ dB fV iY jH gE oG oH aV cI bU cP nK iN kG qA fG fP gP fQ kZ mP aAY oS cO jB kC oO fR yZ uF fH cN jM fX mR gB eU gQ iA uG iB iE kH kE kI zC nS lG kJ iF sH sI wZ zD aBR aBS;simp only [sS];have oeta:(⟨o.kind,o.image,o.x,o.y,o.mask,o.mx,o.my,o.opac,o.oper,o.mode,o.iso,o.kno⟩:Oq)=o:=rfl;have ime:∀ m:Im,(⟨m.w,m.h,m.so,⟨m.c.a,m.c.b,m.c.c,m.c.al,m.c.f⟩,⟨m.p0.w,m.p0.h,m.p0.s,m.p0.n,m.p0.xs⟩,⟨m.p1.w,m.p1.h,m.p1.s,m.p1.n,m.p1.xs⟩,⟨m.p2.w,m.p2.h,m.p2.s,m.p2.n,m.p2.xs⟩,⟨m.p3.w,m.p3.h,m.p3.s,m.p3.n,m.p3.xs⟩,⟨m.p4.w,m.p4.h,m.p4.s,m.p4.n,m.p4.xs⟩⟩:Im)=m:=λ_=>rfl;have wm:1<=o.mask->o.mask<=s.ims.length->wrap .i64 (o.mask-1)=o.mask-1:=λh1 h2=>by
   simp only [RV.wfs,RV.wf,DV.wf,DV.wfs] at hwf;have ma:IntKind.max .i64=9223372036854775807:=rfl;have hb:∃ l h,l<=o.mask/\o.mask<=9223372036854775807/\h=l:=⟨_,_,by omega,by have:=hwf.2.1; simp only [ma] at this; omega,rfl⟩
   obtain ⟨_,_,_,h3,_⟩:=hb;exact wQb _ ⟨by omega,by omega⟩
  clear hwf;have S1:o.kind=1->(h0:0<=o.image)->(h:o.image.toNat<s.ims.length)->srcS s.ims o x y=zJE s.ims[o.image.toNat] x y o.x o.y:=λh1 h2 h3=>by unfold srcS; rw [if_pos h1,jYp h2 h3]
  have SZ:¬ (o.kind=1/\0<=o.image/\o.image<s.ims.length)->srcS s.ims o x y=.zero:=λh=>by
   unfold srcS;split
   ·rename_i h1;exact jQ3 (λq=>h ⟨h1,q⟩)
   ·rfl
  have M1:1<=o.mask->(h:(o.mask-1).toNat<s.ims.length)->(zJE s.ims[(o.mask-1).toNat] x y o.mx o.my).al=zX7 s.ims o x y:=λh1 h3=>by unfold zX7; rw [if_pos h1,jYp (by omega) h3]
  have MZ:¬ (1<=o.mask/\o.mask<=s.ims.length)->0=zX7 s.ims o x y:=λh=>by
   unfold zX7;split
   ·rw [jQ3 (by omega)]; rfl
   ·rfl
  have Z:¬ (o.kind=1/\0<=o.image/\o.image<s.ims.length)->(0=(srcS s.ims o x y).a/\0=(srcS s.ims o x y).b/\0=(srcS s.ims o x y).c/\0=(srcS s.ims o x y).al/\0=(srcS s.ims o x y).f):=λh=>by rw [SZ h]; exact ⟨rfl,rfl,rfl,rfl,rfl⟩
  have N:=λi (hi:i<s.ims.length) u v=>jY3 s.ims[i] x y u v (hu _ (List.getElem_mem hi));have lb:∀ i:Int,0<=i->i<s.ims.length->(0<=i/\i < ↑s.ims.length/\i.toNat*28<(ims s.ims).length):=λi h0 h1=>⟨h0,h1,by rw [zY2]; omega⟩
  by_cases hm:1<=o.mask/\o.mask<=s.ims.length
  ·have k2:(o.mask-1).toNat<s.ims.length:=by omega
   rw [wm hm.1 hm.2];have q2:=zHq k2;simp only [zHr k2,q2,and_self,true_and];clear q2;have N2:=N _ k2 o.mx o.my;by_cases hi:0<=o.image/\o.image<s.ims.length
   ·have k1:o.image.toNat<s.ims.length:=by omega
    have q1:=zHq k1;simp only [zHr k1,q1,and_self,true_and];clear q1;have N1:=N _ k1 o.x o.y;simp only [ime,oeta] at N1 N2 |-;refine ⟨λh1=>⟨λh2=>⟨λh3=>⟨lb _ hi.1 hi.2,N1,⟨λ_=>⟨λ_=>⟨lb _ (by omega) (by omega),N2,?_,M1 hm.1 k2⟩,λh=>absurd hm.2 h⟩,λh=>absurd hm.1 h⟩⟩,λh=>absurd hi.2 h⟩,λh=>absurd hi.1 h⟩,λh=>⟨λ_=>⟨λ_=>⟨lb _ (by omega) (by omega),N2,?_,M1 hm.1 k2⟩,λh=>absurd hm.2 h⟩,λh=>absurd hm.1 h⟩⟩
    ·have h1:o.kind=1:=by simpa using h1
     rw [S1 h1 hi.1 k1]; exact ⟨rfl,rfl,rfl,rfl,rfl⟩
    ·exact Z (λq=>by rw [q.1] at h; cases h)
   ·simp only [ime,oeta] at N2 |-;refine ⟨λh1=>⟨λh2=>⟨λh3=>absurd ⟨h2,h3⟩ hi,λh=>⟨λ_=>⟨λ_=>⟨lb _ (by omega) (by omega),N2,?_,M1 hm.1 k2⟩,λh=>absurd hm.2 h⟩,λh=>absurd hm.1 h⟩⟩,λh=>⟨λ_=>⟨λ_=>⟨lb _ (by omega) (by omega),N2,?_,M1 hm.1 k2⟩,λh=>absurd hm.2 h⟩,λh=>absurd hm.1 h⟩⟩,λh=>⟨λ_=>⟨λ_=>⟨lb _ (by omega) (by omega),N2,?_,M1 hm.1 k2⟩,λh=>absurd hm.2 h⟩,λh=>absurd hm.1 h⟩⟩
    all_goals exact Z (λq=>hi q.2)
  ·by_cases hi:0<=o.image/\o.image<s.ims.length
   ·have k1:o.image.toNat<s.ims.length:=by omega
    have q1:=zHq k1;simp only [zHr k1,q1,and_self,true_and];clear q1;have N1:=N _ k1 o.x o.y;simp only [ime,oeta] at N1 |-;refine ⟨λh9=>⟨λh2=>⟨λh3=>⟨lb _ hi.1 hi.2,N1,⟨λh1=>⟨λh2=>absurd ⟨h1,h2⟩ hm,λ_=>⟨?_,MZ hm⟩⟩,λ_=>⟨?_,MZ hm⟩⟩⟩,λh=>absurd hi.2 h⟩,λh=>absurd hi.1 h⟩,λh=>⟨λh1=>⟨λh2=>absurd ⟨h1,h2⟩ hm,λ_=>⟨?_,MZ hm⟩⟩,λ_=>⟨?_,MZ hm⟩⟩⟩
    ·have h9:o.kind=1:=by simpa using h9
     rw [S1 h9 hi.1 k1]; exact ⟨rfl,rfl,rfl,rfl,rfl⟩
    ·have h9:o.kind=1:=by simpa using h9
     rw [S1 h9 hi.1 k1]; exact ⟨rfl,rfl,rfl,rfl,rfl⟩
    all_goals exact Z (λq=>by rw [q.1] at h; cases h)
   ·refine ⟨λh1=>⟨λh2=>⟨λh3=>absurd ⟨h2,h3⟩ hi,λh=>⟨λh1=>⟨λh2=>absurd ⟨h1,h2⟩ hm,λ_=>⟨?_,MZ hm⟩⟩,λ_=>⟨?_,MZ hm⟩⟩⟩,λh=>⟨λh1=>⟨λh2=>absurd ⟨h1,h2⟩ hm,λ_=>⟨?_,MZ hm⟩⟩,λ_=>⟨?_,MZ hm⟩⟩⟩,λh=>⟨λh1=>⟨λh2=>absurd ⟨h1,h2⟩ hm,λ_=>⟨?_,MZ hm⟩⟩,λ_=>⟨?_,MZ hm⟩⟩⟩
    all_goals exact Z (λq=>hi q.2)
end
def Cl.thaw (bx:Nat->Bx):Cl->Option DV
 | .d v=>some v
 | .nil=>some (.sl 0 [])
 | .ref b n=>match zXs (bx b) with
  | some xs=>some (.sl n xs)
  | none=>none
 | _=>none
def jWc (bx:Nat->Bx):List Cl->Option (List DV)
 | []=>some []
 | c::cs=>match c.thaw bx,jWc bx cs with
  | some d,some ds=>some (d::ds)
  | _,_=>none
mutual
def AV.thaw (bx:Nat->Bx):AV->Option RV
 | .one c=>match c.thaw bx with
  | some d=>some (.d d)
  | none=>none
 | .agg cs=>match jWc bx cs with
  | some ds=>some (.agg ds)
  | none=>none
 | .tup vs=>match AV.thawL bx vs with
  | some rs=>some (.tup rs)
  | none=>none
def AV.thawL (bx:Nat->Bx):List AV->Option (List RV)
 | []=>some []
 | x::xs=>match x.thaw bx,AV.thawL bx xs with
  | some r,some rs=>some (r::rs)
  | _,_=>none
end
section
variable {w:World} {V V':Nat->Prop} {ι:zQf} {bx:Nat->Bx}
theorem jWd (hk:∀ g,V g->V' g) (hb:∀ b,zXK w V ι bx b (bx b)) (ho:∀ b g c,(bx b).live=true->ι b=some (g,c)->V' g) {c:Cl} {d:DV} {v:Value} (h:c.thaw bx=some d) (hr:zQk w V ι bx c v):RepD w V' d v:=by
 have hkk:zZA w V w V':=λg off u hV hu=>⟨hk g hV,hu⟩
 cases c with
 | d x=>
  simp only [Cl.thaw,wQa] at h;subst h;exact RepD.keep hkk hr
 | nil=>
  simp only [Cl.thaw,wQa] at h;subst h;simp only [zQk] at hr;simp only [RepD];exact ⟨none,0,hr,Nat.le_refl _,Nat.zero_le _,λhne=>absurd rfl hne⟩
 | ref b n=>
  simp only [Cl.thaw] at h;split at h
  ·rename_i xs hin;simp only [wQa] at h;subst h;simp only [zQk] at hr;have hbb:=hb b
   cases hB:bx b with
   | row e size ys=>
    rw [hB] at hin hbb;simp only [zXs,wQa] at hin;subst hin;obtain ⟨_,⟨h1,h2,h3⟩ | ⟨g,cap,h1,h2,h3⟩⟩:=hr
    ·rcases hbb with ⟨h4,h5⟩ | ⟨g,cap,cur,h4,_⟩
     ·subst h5 h2;simp only [RepD];exact ⟨none,0,h3,Nat.le_refl _,Nat.zero_le _,λhne=>absurd rfl hne⟩
     ·rw [h1] at h4; cases h4
    ·rcases hbb with ⟨h4,h5⟩ | ⟨g',cap',cur,h4,h5,h6,h7,h8⟩
     ·rw [h1] at h4; cases h4
     ·rw [h1] at h4;injection h4 with h4
      injection h4 with h4 h4'
      subst h4 h4';simp only [RepD];exact ⟨_,cap,h2,h3,h6,λhne=>⟨g,0,rfl,ho b g cap (by rw [hB]; rfl) h1,RepCells.of_row h5 (h8.keep hkk)⟩⟩
   | ice ys=>
    rw [hB] at hin hbb;simp only [zXs,wQa] at hin;subst hin;obtain ⟨_,⟨h1,h2,h3⟩ | ⟨g,cap,h1,h2,h3⟩⟩:=hr
    ·rcases hbb with ⟨h4,h5⟩ | ⟨g,cap,h4,_⟩
     ·subst h5 h2;simp only [RepD];exact ⟨none,0,h3,Nat.le_refl _,Nat.zero_le _,λhne=>absurd rfl hne⟩
     ·rw [h1] at h4; cases h4
    ·rcases hbb with ⟨h4,h5⟩ | ⟨g',cap',h4,h5,h6⟩
     ·rw [h1] at h4; cases h4
     ·rw [h1] at h4;injection h4 with h4
      injection h4 with h4 h4'
      subst h4 h4';simp only [RepD];refine ⟨_,cap,h2,h3,h6,λhne=>⟨g,0,rfl,?_⟩⟩;have h9:=Lies.keep hkk h5;exact h9 hne
   | fresh=>rw [hB] at hin; cases hin
   | gone=>rw [hB] at hin; cases hin
   | cells cs=>rw [hB] at hin; cases hin
  ·cases h
 | sub b o n=>cases h
 | lit u=>cases h
 | ptr b off=>cases h
 | vp cs off=>cases h
 | clo f cs=>cases h
 | dead=>cases h
theorem jKi (hk:∀ g,V g->V' g) (hb:∀ b,zXK w V ι bx b (bx b)) (ho:∀ b g c,(bx b).live=true->ι b=some (g,c)->V' g):∀ {cs:List Cl} {ds:List DV} {vs:List Value},jWc bx cs=some ds->zQF w V ι bx cs vs->zZd w V' ds vs
 | [],ds,vs,h,hr=>by
  simp only [jWc,wQa] at h;subst h
  cases vs with
  | nil=>trivial
  | cons _ _=>exact hr.elim
 | c::cs,ds,vs,h,hr=>by
  simp only [jWc] at h;split at h
  ·rename_i d ds' h1 h2;simp only [wQa] at h;subst h
   cases vs with
   | nil=>exact hr.elim
   | cons v vs=>exact ⟨jWd hk hb ho h1 hr.1,jKi hk hb ho h2 hr.2⟩
  ·cases h
mutual
theorem jWe (hk:∀ g,V g->V' g) (hb:∀ b,zXK w V ι bx b (bx b)) (ho:∀ b g c,(bx b).live=true->ι b=some (g,c)->V' g):∀ {x:AV} {r:RV} {v:Value},x.thaw bx=some r->zQd w V ι bx x v->RepR w V' r v
 | .one c,r,v,h,hr=>by
  simp only [AV.thaw] at h;split at h
  ·rename_i d h1;simp only [wQa] at h;subst h;simp only [zQd] at hr;simp only [RepR];exact jWd hk hb ho h1 hr
  ·cases h
 | .agg cs,r,v,h,hr=>by
  simp only [AV.thaw] at h;split at h
  ·rename_i d h1;simp only [wQa] at h;subst h;simp only [zQd] at hr;obtain ⟨cur,e,hr⟩:=hr;simp only [RepR];exact ⟨cur,e,jKi hk hb ho h1 hr⟩
  ·cases h
 | .tup vs,r,v,h,hr=>by
  simp only [AV.thaw] at h;split at h
  ·rename_i d h1;simp only [wQa] at h;subst h;simp only [zQd] at hr;obtain ⟨cur,e,hr⟩:=hr;simp only [RepR];exact ⟨cur,e,thaw_avs hk hb ho h1 hr⟩
  ·cases h
theorem thaw_avs (hk:∀ g,V g->V' g) (hb:∀ b,zXK w V ι bx b (bx b)) (ho:∀ b g c,(bx b).live=true->ι b=some (g,c)->V' g):∀ {xs:List AV} {rs:List RV} {vs:List Value},AV.thawL bx xs=some rs->RepAVs w V ι bx xs vs->RepRs w V' rs vs
 | [],rs,vs,h,hr=>by
  simp only [AV.thawL,wQa] at h;subst h
  cases vs with
  | nil=>simp only [RepRs]
  | cons _ _=>simp only [RepAVs] at hr
 | x::xs,rs,vs,h,hr=>by
  simp only [AV.thawL] at h;split at h
  ·rename_i d ds' h1 h2;simp only [wQa] at h;subst h
   cases vs with
   | nil=>simp only [RepAVs] at hr
   | cons v vs=>
    simp only [RepAVs] at hr;simp only [RepRs];exact ⟨jWe hk hb ho h1 hr.1,thaw_avs hk hb ho h2 hr.2⟩
  ·cases h
end
end
theorem AnsG.ans {P:Program} {f:FuncId} {args:List AV} {rs:List RV} {r:Ret} {res:RV} (h:AnsG P f 0 args [] r) (ha:args=RV.avs rs) (hr:r.res.thaw (zQD r.outs)=some res):Ans P f rs res:=by
 subst ha;intro w S vs hg hrep;have hno:∀ b,(zQD ([]:List Bx) b)=.fresh:=λb=>by simp [zQD]
 have hnone:∀ g,¬ OwnB (zQD ([]:List Bx)) (λ_=>none) g:=λg ⟨b,c,hl,e⟩=>by rw [hno] at hl; cases hl
 have hh:zH9 w S (λ_=>none) (RV.avs rs) [] vs.toList:=by
  refine ⟨λb g c hl e=>?_,λb b' g c c' hl hl' hne e=>?_,λb=>?_,rep_avs hrep⟩
  ·rw [hno] at hl; cases hl
  ·rw [hno] at hl; cases hl
  ·rw [hno]; trivial
 refine (h w S _ vs hg hh).mono λed w' hp=>?_;obtain ⟨v,ι',rfl,ha⟩:=hp;refine ⟨v,rfl,jWe (λg hV=>?_) ha.bx (λb g c hl e=>?_) hr ha.rep,ha.bel.below hnone⟩
 ·rcases hV.1 with ⟨_,h⟩ | h | h
  ·exact .inl h
  ·exact .inr h
  ·exact absurd h (hnone g)
 ·rcases (ha.own b g c hl e).1 with h | h
  ·exact .inr h
  ·exact absurd h (hnone g)
def StV (bits:Int) (mn:Nat) (st:List Oq):Prop:=∀ (p:List Oq) (q:Oq) (r:List Oq),st=p++q::r->q.kind=2/\errO bits mn q p=0
theorem StV.nil {bits:Int} {mn:Nat}:StV bits mn []:=λp q r h=>by simp at h
abbrev wXZ:=@List.eq_nil_or_concat
theorem StV.push {bits:Int} {mn:Nat} {st:List Oq} (h:StV bits mn st) {o:Oq} (hk:o.kind=2) (he:errO bits mn o st=0):StV bits mn (st++[o]):=λp q r e=>by
 rcases wXZ r with rfl | ⟨r',z,rfl⟩
 ·have ⟨e1,e2⟩:=wYp e rfl;simp only [wQE,and_true] at e2;subst e1 e2;exact ⟨hk,he⟩
 ·have e:st++[o]=(p++q::r')++[z]:=by rw [e]; simp
  exact h p q r' (wYp e rfl).1
abbrev wX0:=@List.concat_eq_append
theorem StV.pop {bits:Int} {mn:Nat} {st:List Oq} (h:StV bits mn st):StV bits mn st.dropLast:=λp q r e=>by
 rcases wXZ st with rfl | ⟨s',z,rfl⟩
 ·simp at e
 ·rw [wX0,wZk] at e;exact h p q (r++[z]) (by rw [wX0,e]; simp)
theorem jXE {m:Int} {ms:List Im} {x y:Int} {L:List Lv} {o:Oq} (hk:o.kind=3):zJi m ms x y L o=zJi m ms x y L popO:=by
 have k3:popO.kind=3:=rfl;unfold zJi;rw [if_neg (by omega),if_neg (by omega),if_pos hk,if_neg (by omega),if_neg (by omega),if_pos k3]
theorem jWh {m:Int} {bits:Int} {ms:List Im} {st:List Oq} {L:List Lv} {o:Oq} (hi:zJI m ms) (hb:zQo bits=m) (hv:StV bits ms.length st) (h:StOk m st L) (h0:0<=o.opac) (he:errO bits ms.length o st=0) (x y:Int) :
  StV bits ms.length (zXA o st)/\StOk m (zXA o st) (zJi m ms x y L o):=by
 obtain ⟨P,t,rfl⟩:=h.split
 rcases zJc he with hk | hk | ⟨hk,hne⟩
 ·rw [zKS hk];obtain ⟨a,e,h1⟩:=zHL hi hb h hk h0 he x y;rw [e];exact ⟨hv,h1⟩
 ·rw [zWw hk];obtain ⟨e,h1⟩:=zWF hb h hk h0 he x y (ms:=ms);rw [e];exact ⟨hv.push hk he,h1⟩
 ·rcases wXZ st with rfl | ⟨st',q,rfl⟩
  ·exact absurd rfl hne
  ·have hk:o.kind=3:=by rw [hk]; rfl
   rw [wX0] at hv h hne |-;have e:zXA o (st'++[q])=st':=by unfold zXA; rw [if_neg (by omega),if_pos hk,wZk]
   obtain ⟨q1,q2⟩:=hv st' q [] rfl;obtain ⟨_,_,_,_,f2,f3,f4,_⟩:=zZn (.inr q1) q2;obtain ⟨P',u,rfl⟩:=h.pre.2.split;obtain ⟨e3,a,e4,s3⟩:=jX2 hi h f2 f3 f4 x y;rw [e,jXE hk,e3,e4];have:=hv.pop;rw [wZk] at this;exact ⟨this,s3⟩
theorem jWt {m:Int} {bits:Int} {ms:List Im} (hi:zJI m ms) (hb:zQo bits=m) (x y:Int):∀ (l st st':List Oq) (L:List Lv),okO bits ms.length l st=some st'->(∀ o∈l,0<=o.opac)->StV bits ms.length st->StOk m st L->StV bits ms.length st'/\StOk m st' (runM m ms x y l L)
 | [],st,st',L,h,_,hv,hs=>by
  simp only [okO,wQa] at h;subst h;exact ⟨hv,hs⟩
 | o::l,st,st',L,h,ho,hv,hs=>by
  simp only [okO] at h;split at h
  ·rename_i he;obtain ⟨h1,h2⟩:=jWh hi hb hv hs (ho o (by simp)) he x y;rw [zZM];exact jWt hi hb x y l _ st' _ h (λq hq=>ho q (by simp [hq])) h1 h2
  ·cases h
section
attribute [local irreducible] Ans AnsO AnsG AnsN AnsI
end
section
variable {α:Type} {f:α->List DV} {m:Nat}
theorem flat_len (hf:∀ a,(f a).length=m) (l:List α):(l.flatMap f).length=l.length*m:=by
 induction l with
 | nil=>simp
 | cons a l ih=>rw [wQZ,wQi,hf,ih,wQJ,wQn]; omega
theorem zHE (hf:∀ a,(f a).length=m):∀ (l:List α) (k:Nat),(l.flatMap f).take (k*m)=(l.take k).flatMap f
 | [],k=>by simp
 | a::l,0=>by simp
 | a::l,k+1=>by
  rw [wQZ,wYe,wQZ,wXO,hf,wQY (by rw [hf,wQn]; omega),show (k+1)*m-m=k*m by rw [wQn]; omega,zHE hf l k]
theorem jYE (hf:∀ a,(f a).length=m):∀ (l:List α) (k:Nat),(l.flatMap f).drop (k*m)=(l.drop k).flatMap f
 | [],k=>by simp
 | a::l,0=>by simp
 | a::l,k+1=>by
  rw [wQZ,List.drop_succ_cons,List.drop_append,hf,List.drop_of_length_le (by rw [hf,wQn]; omega),show (k+1)*m-m=k*m by rw [wQn]; omega,jYE hf l k,List.nil_append]
abbrev wYF:=@List.set_eq_take_append_cons_drop
theorem jUl (hf:∀ a,(f a).length=m) {l:List α} {k:Nat} (h:k<l.length) (a:α):sets (l.flatMap f) (k*m) (f a)=(l.set k a).flatMap f:=by
 have hle:(k+1)*m<=l.length*m:=wQR _ (by omega);rw [zV2 _ _ _ (by rw [flat_len hf,hf]; rw [wQn] at hle; omega),hf,zHE hf,show k*m+m=(k+1)*m by rw [wQn]; omega,jYE hf,wYF,if_pos h];simp
theorem jGC (hf:∀ a,(f a).length=m) {l:List α} {k:Nat} (h:k<l.length) {j:Nat} (hj:j<m) {d:DV} {a:α} (ha:f a=(f l[k]).set j d):(l.flatMap f).set (k*m+j) d=(l.set k a).flatMap f:=by
 have e:l.flatMap f=(l.take k).flatMap f++(f l[k]++(l.drop (k+1)).flatMap f):=by
  have e0:l=l.take k++(l[k]::l.drop (k+1)):=by rw [<- wZS h,wZy]
  have e1:=congrArg (List.flatMap f) e0;rw [List.flatMap_append,wQZ] at e1;exact e1
 have e2:(l.set k a).flatMap f=(l.take k).flatMap f++(f a++(l.drop (k+1)).flatMap f):=by
  rw [wYF,if_pos h];simp
 have lt:((l.take k).flatMap f).length=k*m:=by rw [flat_len hf,wQm,wQG (by omega)]
 rw [e,e2,ha,List.set_append_right _ _ (by omega),lt,show k*m+j-k*m=j by omega,List.set_append_left _ _ (by rw [hf]; exact hj)]
end
theorem jHF {l:List Oq} {k:Nat} (h:k<l.length) {j:Nat} (hj:j<12) {d:DV} {o:Oq} (ha:o.cells=l[k].cells.set j d):(ops l).set (k*12+j) d=ops (l.set k o):=jGC (f:=Oq.cells) (m:=12) (λ_=>rfl) h hj ha
section
attribute [local irreducible] Ans AnsO AnsG AnsN AnsI
theorem zGp {l:List Rc} {k:Nat} (h:k<l.length) (r:Rc):sets (rcs l) (k*4) r.cells=rcs (l.set k r):=jUl (f:=Rc.cells) (m:=4) (λ_=>rfl) h r
theorem jU3 (l:List Rc) (k:Nat):(rcs l).take (k*4)=rcs (l.take k):=zHE (f:=Rc.cells) (m:=4) (λ_=>rfl) l k
theorem jHx (l m:List Rc):rcs (l++m)=rcs l++rcs m:=by simp [rcs]
theorem jHw (r:Rc):rcs [r]=r.cells:=by simp [rcs]
theorem jKt:∀ n:Nat,repl n Rc.zero.cells=rcs (List.replicate n Rc.zero)
 | 0=>rfl
 | n+1=>by
  have h:=jKt n;unfold repl at h |-;rw [wZF,List.flatten_cons,h,wZF];rfl
def yQV:Gam:=jHX.add []
def aFH (a:List Int) (b:List Cl):List Cl:=fO (List.length a) (is a) b
def xR (a:Scr) (b:List Cl):List Cl:=aFH a.ord (fO (qA a) (fG a) (fO (dV a) (fD a) b))
def kW (a:Nat) (b:Scr):Prop:=a<=dV b
def aMJ (b:Scr) (d e f:Int) (g:List Cl):List Cl:=gK b.bits b.c.a d e f b.tw b.th (xR b g)
def aMK (a:Scr) (d e:Int) (f:List Cl):List Cl:=aMJ a a.c.b d e f
def aML (a:Scr) (b:Int) (d:List Cl):List Cl:=aMK a a.c.c b d
def xN (a:Scr) (b:List Cl):List Cl:=aML a a.c.d b
def uT (a:Bst):List DV:=rcs a.fst
def uS (a:Bst):Nat:=List.length a.snd.snd
def uV (a:Bst):List DV:=rcs a.snd.snd
def uU (a:Bst):List DV:=is a.snd.fst
def dF (a:Scr) (b:Nat):Int:=aU (fD a) b
def dM (a:Scr) (b:Nat):Prop:=bQ (ops a.ops) b
def aCA (a:Nat) (b:Scr) (c:Nat):Prop:=eG a (dV b) c (fD b)
def mW (a:Nat) (b:List DV) (c:Int):RV:=zP (dO a b) c []
def xQ (a:Int) (b:List DV):List DV:=repl (Int.toNat a) b
def qM (a:List DV) (b c:Nat):Int:=nAt a (aY (cV b) c)
def uX (a:List DV) (b c:Nat):Int:=nAt a (aY (cV b) c+1+1)
abbrev wYs:=@Option.some.inj
theorem zGm (s:Scr):Ans prog 156 [rA (sD s)] (rT [rD (dS ((zXm s).1.length) (rcs (zXm s).1)),rJ (((zXm s).2))]):=
 zQa (Γ:=yQV) (let c:=dV s;vQ (eF (Ann.loop (Inv.mk Nat (λ(j:Nat)=>kW j s) (λ(e:Nat)=>let d:=runB s e;qZ (pO 1 1 6 (aCL 24 c) (mE 7 9001 (List.length d.snd.fst) 8 (Cl.ref 9002 (uS d)) (kP 28 (DV.sl c (fD s)) (lO 29 c 30 e)))) 1 (xN s []) (tT 24 28 4 (uT d) 9001 3 1 (uU d) 9002 28 4 (uV d) [])) (λ(h:Nat)=>c-h)) (λ(b:Nat)=>let f:=Option.getD s.ops[b]? popO;eF (Ann.cut (Inv.mk Bst (λ(g:Bst)=>f.kind≠2/\g=zU9 s b f (runB s b)) (λ(a:Bst)=>qZ (pO 1 1 6 (aCL 24 c) (mE 7 9001 (List.length a.snd.fst) 8 (Cl.ref 9002 (uS a)) (xP 9 (b:Int) 28 c (fD s) 29 30 b))) 1 (xN s []) (tT 24 28 4 (uT a) 9001 3 1 (uU a) 9002 28 4 (uV a) [])) (λ(l:Bst)=>(0:Nat))) aL (λ(k:Bst)=>aL)))))) zQb Tryz.func156 rfl (nL rfl) λhwf=>by
  refine Eq.mpr (by kernel_rfl:_=(let U:=mW (List.length (zXm s).fst) (rcs (zXm s).fst) (zXm s).snd;let c:=dV s;let b:=fD s;let F:=iQ s.c.b s.c.c s.c.d s.tw (vH s.th::aGD s c b);let G:=s.c.a;let X:=DV.int IntKind.i64 G::F;let v:=s.bits;let Y:=DV.int IntKind.i64 v;let w:=eS (Y::X);let q:=(c:Int);let R:=qL s s.c;let x5:=yH q;let w7:=opsE v s.c s.tw s.th (ints (is s.ord)) (qA s) (zQl (fD s));let T:=w7.fst;True/\bV (dL 46 (rA (Y::X)) (vX w7)) (sV (fI T) (True/\True/\mW 0 [] T=U) (hZ T) (aK (mF (c:Int) 32) (bS (True/\(∃ O:Nat,let A:=runB s O;cQ (kW O s) (bN (uW q (mH 0 A.snd.fst) (sP (1=uS A) c b O))) w (xQ q vV=uT A) (([]:List DV)=uU A) (vV=uV A))/\(∀ a:Nat,let l:=runB s a;let t:=uT l;let H:=aT a 4;let I:=zM a c;let Z:=Option.getD s.ops[a]? popO;let P:=zU9 s a Z l;let Q:=Z.kind≠2;let d:=uV l;let f:=uS l;let J:=cV f;let r:=uU l;let k:=List.length l.snd.fst;let z0:=cV k;let K:=cV f;let z1:=gE d K 4;let z2:=uX d f 4;let z3:=jH d K 4;let z4:=qM d f 4;let e:=qM r k 1;let x:=aY e 12;let z5:=bAt b (fX x);let z6:=bAt b (gB x);let L:=aY e 12;let z7:=cP L;let z8:=dF s z7;let z9:=bU L;let y0:=dF s z9;let y1:=dF s (lG e 12);let y2:=nS e 12;let y3:=dF s y2;let y4:=kE e 12;let y5:=dF s y4;let y6:=dF s x;let y7:=gE b e 12;let y8:=nAt b (L+1+1);let y9:=jH b e 12;let x0:=nAt b L;let x1:=boxF R ⟨x0,y9,y8,y7,y6,y5,y3,y1,y0,z8,z6,z5⟩ ⟨z4,z3,z2,z1⟩;let h:=sets t (aT a 4) (oB x1);let x2:=aY e 4;let x3:=gA a/\gD c b/\aW (gA c) (gA a);let x4:=cV k;let x6:=List.length l.snd.fst<=maxLen;let x7:=gL (aT a 4+4) t;let x8:=aY K 4;let y:=bT b a 12;let M:=aT a 12;let S:=aT a 12;let x9:=dF s (cP S);let w0:=dF s (bU S);let w1:=dF s (cI S);let w2:=(⟨y,dT b a 12,eH b a 12,dE b a 12,dF s M,dF s (gF a 12),w1,dF s (mK a 12),w0,x9,bAt b (gB M),bAt b (fX M)⟩:Oq);let w3:=imgR R w2;let w4:=boxF R w2 w3;let w5:=cU w3;let w6:=rA (aFX b a 12 (dF s M) (dF s (gF a 12)) w1 (dF s (mK a 12)) w0 x9);bL (a<=c) (eX a c true (aCA a s 12/\zG b a 12 (dM s M) (dM s (gF a 12)) (dM s (cI S)) (dM s (bU S)) (dM s (cP S))/\True/\True/\True/\(True/\nN y 2 (True/\True/\True/\zZ2 1 8 k 1 r (nI (a:Int))/\bV (zZ2 4 32 f 1 d vV) (∃ C:Nat,let z:=runB s C;cB C (dV s) (cQ (bW (dV s) C a) (bN (uW q (mH (k+1) z.snd.fst) (iG (f+1=uS z) c b a C))) w (t=uT z) (r++nI (a:Int)=uU z) (d++vV=uV z)))) (cR (y==2) (gJ y 1 (dP (yN 197 v G F [w6] w5) (yN 210 v G F [w6,w5] (cU w4)/\I/\x7/\eS true/\(∃ p:Bst,cQ (Q/\p=P) (mI x5 (mH k p.snd.fst/\f=uS p/\x3)) w (sets t (aT a 4) (oB w4)=uT p) (r=uU p) (d=uV p))))) ((y==1)=false->aH x6 (cG (gO x4 k) (aZ (jR r z0 1)) (True/\True/\True/\True/\cZ (lS e c 12 b) (aHM (jR b e 12) (oG b e 12) b x (dM s x) (dM s y4) (dM s y2) (dM s z9) (dM s z7)) (tP f (gO K f) (aF (jR d J 4) (oG d J 4) (fY d x8) (fY d (x8+1))/\yN 210 v G F [rA (pL x0 y9 y8 y7 y6 y5 y3 y1 y0 z8 z6 z5),lB z4 z3 z2 z1] (cU x1)/\I/\x7/\iW (True/\I/\aF (gM h a 4) (kS h H 1) (fY h H) (tQ h a 4)/\vR e q/\gL (x2+4) h/\True/\True/\x6/\aK (aAS k) (fH (f<=maxLen) (aAS f) (True/\eS true/\(∃ o:Bst,cQ (Q/\o=P) (mI x5 (mH (Int.toNat x4) o.snd.fst/\oR J (uS o)/\x3)) w (sets h x2 (fM (bT h a 4) (dT h a 4) (eH h a 4) (dE h a 4))=uT o) (pN z0 1 r=uU o) (pN J 4 d=uV o))))))))))))/\(∀ n:Bst,let j:=uT n;let m:=uS n;let D:=cV m;let g:=uV n;let V:=iQ (qM g m 4) (jH g D 4) (uX g m 4) (gE g D 4) (fM (bT j a 4) (dT j a 4) (eH j a 4) (dE j a 4));let W:=zZN (zGE V);let E:=aY D 4;Q/\n=P->eZ (tP m (gO D m) (iY (aF (jR g (cV m) 4) (oG g (cV m) 4) (fY g E) (fY g (E+1))) I (fH (aF (gM j a 4) (kS j H 1) (fY j H) (tQ j a 4)) (dL 211 (dO 2 V) (cU W)) (cG (gL (E+4) g) (eS true) (∃ B:Nat,let u:=runB s B;cB B (dV s) (cQ (bW (dV s) B a) (bN (uW q (mH (List.length n.snd.fst) u.snd.fst) (iG (m=uS u) c b a B))) w (j=uT u) (uU n=uU u) (sets g E (oB W)=uV u)))))))))) (eX a c false (True/\True/\mW (Int.toNat (c:Int)) t 0=U))))))))) ?_;delta eS aY aZ lS cZ jR vH aE aI aF aH aK bD aX gJ iQ aM iS oT fM bN cG pL oB aW nH nG dO aT gO gL gW bL gD dP gF vR mG mH pN iW nI yH mF cL eZ kS aU fY cR bQ bT eG bV eX dT dE eH dC gM iY jH gE tQ oG tP vV zP eJ vX cI bU sM lB cP bS bW cB mK tU gA cU cV kG nN aAS mI yN qA dV fG fD kW cQ aGD dL uW oR fI hZ uF fH fX gB kE zC nS lG dF dM aGR zG aCA aFX iG sP qL sV mW uT uS uV uU xQ qM zM uX aHM;simp only [sS]
  (try simp only [zJy,zYP,zZF,zQ5,zQw])
  have hsE:(⟨s.bits,s.c,s.tw,s.th,s.ord,s.ims,s.ops⟩:Scr)=s:=rfl
  (try simp only [hsE])
  clear hsE;have eB:zXm s=if s.run.1=0 then ((runB s s.ops.length).1,0) else ([],s.run.1):=rfl
  have oA:=zKz s;have hE:opsE s.bits s.c s.tw s.th s.ord s.ims.length s.ops=s.run:=rfl;simp only [hE];refine ⟨oA,λh=>?_,λh=>?_⟩
  ·have h:s.run.1≠0:=by simpa using h
   rw [eB,if_neg h]; exact ⟨⟨rfl,rfl⟩,rfl⟩
  ·have h0:s.run.1=0:=by simpa using h
   have F:=jQH h0;obtain ⟨fl1,fl2⟩:=jYC (zY8 h0).1;have hM:∀ n:Nat,n<=10000->n<=maxLen:=λn h=>by unfold maxLen; omega
   rw [eB,if_pos h0];clear eB hE oA h hwf;refine ⟨⟨by omega,Int.le_refl _,by have:=hM s.ops.length (by omega); omega,by omega⟩,⟨0,Nat.zero_le _,⟨rfl,rfl,rfl⟩,jKt _,rfl,rfl⟩,λk hk=>⟨λhlt=>?_,λhge=>?_⟩⟩
   ·have hlt:k<s.ops.length:=by omega
    obtain ⟨st,g1,g2,g3,g4,g5,g6,g7⟩:=F k hk;have q1:=zKD hlt;have q2:=zKE hlt;have eo:(s.ops[k]?).getD popO=s.ops[k]:=by rw [List.getElem?_eq_getElem hlt]; rfl
    obtain ⟨he1,he2⟩:=jKJ g1 g2 hlt;have w1:wrap .i64 ((k:Int)+1)=((k+1:Nat):Int):=zZ3 (by omega);have rS:runB s (k+1)=zU8 s k s.ops[k] (runB s k):=by rw [<- eo]; rfl
    have oeta:(⟨s.ops[k].kind,s.ops[k].image,s.ops[k].x,s.ops[k].y,s.ops[k].mask,s.ops[k].mx,s.ops[k].my,s.ops[k].opac,s.ops[k].oper,s.ops[k].mode,s.ops[k].iso,s.ops[k].kno⟩:Oq)=s.ops[k]:=rfl;simp only [q2,eo,oeta,w1];generalize s.ops[k]=o at *;clear oeta eo;generalize hz:runB s k=z at *;obtain ⟨z1,z2,z3⟩:=z;simp only at *;refine ⟨⟨by omega,by omega,by rw [zQC]; omega⟩,q1,⟨λhp=>?_,λhp=>⟨λhd=>?_,λhd=>?_⟩⟩,λy hy=>?_⟩
    ·have hk2:o.kind=2:=by simpa using hp
     have e:runB s (k+1)=(z1,z2++[(k:Int)],z3++[Rc.zero]):=by rw [rS]; unfold zU8; rw [if_pos hk2]
     refine ⟨⟨by simp [zQz],rfl,hM _ (by omega),by omega⟩,⟨by simp [zXC],rfl,hM _ (by omega),by omega⟩,k+1,by omega,by omega,⟨?_,?_,rfl⟩,?_,?_,?_⟩
     ·rw [e]; simp
     ·rw [e]; simp
     ·rw [e]
     ·rw [e]; simp [is]
     ·rw [e,jHx,jHw]; rfl
    ·have hk1:o.kind=1:=by simpa using hd
     have e:zU9 s k o (z1,z2,z3)=(z1.set k (boxF s o (imgR s o)),z2,z3):=by unfold zU9; rw [if_pos hk1]
     exact ⟨zVG s o,zVT s o (imgR s o),⟨by omega,by omega⟩,by rw [zXC]; omega,_,⟨by omega,e.symm⟩,⟨rfl,rfl⟩,zGp (by omega) _,rfl,rfl⟩
    ·have hk1:o.kind≠1:=by simpa using hd
     have hk2:o.kind≠2:=by simpa using hp
     have hz2:0<z2.length:=by
      rcases zJc he1 with h | h | ⟨_,h⟩
      ·exact absurd h hk1
      ·exact absurd h hk2
      ·have:=wZ8.2 h; omega
     have w2:wrap .i64 ((z2.length:Int)-1)=((z2.length-1:Nat):Int):=by rw [wQb _ ⟨by omega,by omega⟩]; omega
     have w3:wrap .i64 ((z3.length:Int)-1)=((z3.length-1:Nat):Int):=by rw [wQb _ ⟨by omega,by omega⟩]; omega
     obtain ⟨p,hp2⟩:∃ p,z2[z2.length-1]?=some p:=⟨_,List.getElem?_eq_getElem (by omega)⟩
     obtain ⟨h,hh2⟩:∃ h,z3[z3.length-1]?=some h:=⟨_,List.getElem?_eq_getElem (by omega)⟩
     have hpb:=g7 p (wZ3 hp2);have hpl:p.toNat<s.ops.length:=by omega
     have n2:nAt (is z2) (z2.length-1)=p:=by simp [nAt,is,hp2]
     have n2':(is z2)[z2.length-1]?=some (.int .i64 p):=by simp [is,hp2]
     have hl3:z3.length-1<z3.length:=by omega
     have eh:z3[z3.length-1]=h:=by rw [List.getElem?_eq_getElem hl3] at hh2; exact wYs hh2
     have r1:=zVP z3 _ hl3;have r2:=zV6 hl3;rw [eh] at r1 r2;have q1':=zKD hpl;have q2':=zKE hpl;have eop:(s.ops[p.toNat]?).getD popO=s.ops[p.toNat]:=by rw [List.getElem?_eq_getElem hpl]; rfl
     have e:zU9 s k o (z1,z2,z3)=((z1.set k (boxF s s.ops[p.toNat] h)).set p.toNat (boxF s s.ops[p.toNat] h),z2.dropLast,z3.dropLast):=by
      unfold zU9;rw [if_neg hk1];simp only [hp2,hh2,wQF,eop]
     have oeta:(⟨s.ops[p.toNat].kind,s.ops[p.toNat].image,s.ops[p.toNat].x,s.ops[p.toNat].y,s.ops[p.toNat].mask,s.ops[p.toNat].mx,s.ops[p.toNat].my,s.ops[p.toNat].opac,s.ops[p.toNat].oper,s.ops[p.toNat].mode,s.ops[p.toNat].iso,s.ops[p.toNat].kno⟩:Oq)=s.ops[p.toNat]:=rfl;have heta:(⟨h.a,h.b,h.c,h.d⟩:Rc)=h:=rfl;simp only [w2,w3,wQl,wQo,n2,r2,q2',oeta,heta];have bx:=zVT s s.ops[p.toNat] h;generalize s.ops[p.toNat]=q at *;clear oeta heta eop;generalize boxF s q h=B at *;have es:sets (rcs z1) (k*4) [DV.int .i64 B.a,DV.int .i64 B.b,DV.int .i64 B.c,DV.int .i64 B.d]=rcs (z1.set k B):=zGp (by omega) B;have hl1:k<(z1.set k B).length:=by simp; omega
     have b1:=zVP (z1.set k B) k hl1;have b2:=zV6 hl1;rw [List.getElem_set_self] at b1 b2;simp only [es,b2];have es2:sets (rcs (z1.set k B)) (p.toNat*4) [DV.int .i64 B.a,DV.int .i64 B.b,DV.int .i64 B.c,DV.int .i64 B.d]=rcs ((z1.set k B).set p.toNat B):=zGp (by simp; omega) B;simp only [es2];refine ⟨hM _ (by omega),⟨by omega,by omega⟩,n2',⟨by omega,by omega,by rw [zQC]; omega⟩,q1',hM _ (by omega),⟨by omega,by omega⟩,r1,bx,⟨by omega,by omega⟩,by rw [zXC]; omega,⟨by omega,by omega⟩,b1,⟨by omega,by omega⟩,by rw [zXC,wZp]; omega,hM _ (by omega),⟨by omega,by omega⟩,hM _ (by omega),⟨by omega,by omega⟩,_,⟨hk2,e.symm⟩,⟨by simp,by simp⟩,rfl,?_,?_⟩
     ·rw [wZT]; simp [is]
     ·show _=rcs z3.dropLast
      rw [wZT,jU3]
    ·obtain ⟨y1,y2,y3⟩:=y;obtain ⟨hk2,hy⟩:=hy;simp only at hk2 hy |-;have yl:0<y3.length/\y3.length<=5000/\y1.length=s.ops.length:=by
      unfold zU9 at hy;split at hy
      ·simp only [wQc] at hy;obtain ⟨rfl,rfl,rfl⟩:=hy;rw [wZp]; omega
      ·rename_i hk1;simp only [wQc] at hy;obtain ⟨rfl,rfl,rfl⟩:=hy;have hz2:0<z2.length:=by
        rcases zJc he1 with h | h | ⟨_,h⟩
        ·exact absurd h hk1
        ·exact absurd h hk2
        ·have:=wZ8.2 h; omega
       simp; omega
     obtain ⟨yl1,yl2,yl3⟩:=yl;have w3:wrap .i64 ((y3.length:Int)-1)=((y3.length-1:Nat):Int):=by rw [wQb _ ⟨by omega,by omega⟩]; omega
     have hl3:y3.length-1<y3.length:=by omega
     have hl1:k<y1.length:=by omega
     have r1:=zVP y3 _ hl3;have r2:=zV6 hl3;have b1:=zVP y1 _ hl1;have b2:=zV6 hl1;have e:runB s (k+1)=(y1,y2,y3.set (y3.length-1) (zZN [y3[y3.length-1],y1[k]])):=by
      rw [rS];unfold zU8;rw [if_neg hk2];simp only [<- hy,topB];rw [List.getElem?_eq_getElem hl3,List.getElem?_eq_getElem hl1];rfl
     simp only [w3,wQl,r2,b2];generalize y3[y3.length-1]=c at *;generalize y1[k]=B at *;have hu:=jZG 2 (rcs [c,B]) (jW4 [c,B]);have et:zGE [DV.int .i64 c.a,DV.int .i64 c.b,DV.int .i64 c.c,DV.int .i64 c.d,DV.int .i64 B.a,DV.int .i64 B.b,DV.int .i64 B.c,DV.int .i64 B.d]=[c,B]:=rfl;simp only [zKQ] at hu;simp only [et];refine ⟨hM _ (by omega),⟨by omega,by omega⟩,r1,⟨by omega,by omega⟩,b1,hu,by rw [zXC]; omega,k+1,by omega,by omega,⟨?_,?_,rfl⟩,?_,?_,?_⟩
     ·rw [e]
     ·rw [e]; simp
     ·rw [e]
     ·rw [e]
     ·rw [e]; exact zGp hl3 _
   ·have:k=s.ops.length:=by omega
    subst this;exact ⟨⟨by have:=(F _ hk).choose_spec.2.2.1; exact this.symm,rfl⟩,rfl⟩
def yQT:Gam:=yQV.add []
def aDI (a:Nat × List Int × List Int):Prop:=List.length a.snd.snd<=a.fst
def aDJ (a:Nat × List Int × List Int) (b:Int):Prop:=Membership.mem a.snd.snd b
def aDK (a:Nat × List Int × List Int) (b:List Oq):List Int × Int:=runE (List.drop a.fst b) a.fst a.snd.fst a.snd.snd
def aDH (a:Nat × List Int × List Int) (b:List Oq):Prop:=mJ (List.length a.snd.fst) b
def mX (a:List Oq):List Int:=(zZy a).fst
theorem zWt (l:List Oq) (hl:l.length<=100000):Ans prog 77 [rD (dS l.length (ops l))] (rT [rD (dS ((zZy (zQl (ops l))).1.length) (is (zZy (zQl (ops l))).1)),rJ (((zZy (zQl (ops l))).2))]):=
 zQa (Γ:=yQT) (let b:=List.length l;oU (Ann.loop (Inv.mk (Nat × List Int × List Int) (λ(a:Nat × List Int × List Int)=>vZ a.fst l/\aDH a l/\aDI a/\(∀ d:Int,aDJ a d->tY d l)/\aDK a l=zZy l) (λ(c:Nat × List Int × List Int)=>oE (xW 4 (Cl.ref 10 b) (mE 5 9005 (List.length c.snd.snd) 11 (qV b (ops l)) (lO 12 b 13 c.fst))) 10 3 1 (is c.snd.fst) (jU 9005 3 1 (is c.snd.snd))) (λ(e:Nat × List Int × List Int)=>b-e.fst)) (λ(f:Nat × List Int × List Int)=>aL))) zQb Tryz.func77 rfl (nL rfl) λhwf=>by
  refine Eq.mpr (by kernel_rfl:_=(let c:=ops l;let r:=zQl c;let s:=mW (List.length (mX r)) (is (mX r)) (zZy r).snd;let d:=List.length l;let C:=mW 0 [] 18=s;let e:=List.length l;let v:=eS e;let n:=zZy l;let o:=ops l;let H:=(d:Int);aV (aK (mF H 8) (True/\True/\True/\(∃ j:Nat × List Int × List Int,aF (cB j.fst d (aDH j l/\aDI j/\(∀ B:Int,aDJ j B->tY B l)/\aDK j l=n)) (mJ (Int.toNat H) l/\sP (mH 0 j.snd.snd) d c j.fst) (aAH (d:Int) (DV.int IntKind.i64 0) (is j.snd.fst)) (([]:List DV)=is j.snd.snd))/\(∀ i:Nat × List Int × List Int,let t:=is i.snd.fst;let b:=List.length i.snd.snd;let D:=(b:Int);let p:=List.length i.snd.snd<=maxLen;let a:=i.fst;let m:=bT c a 12;let k:=is i.snd.snd;let E:=cV b;let u:=qM k b 1;let q:=List.set t (aT a 1) (nH a);let F:=cV b;let G:=nI (a:Int);let w:=aT a 12;bL (vZ a l/\aDH i l/\aDI i/\(∀ A:Int,aDJ i A->tY A l)/\aDK i l=n) (gY a d->cZ (eG a d 12 c) (zG c a 12 (bQ o (aT a 12)) (bQ o (gF a 12)) (bQ o (cI w)) (bQ o (bU w)) (bQ o (cP w))) (True/\True/\True/\True/\cZ (tY (a:Int) l) (gL (gF a 1) t) (kZ m 1 (∃ h:Nat × List Int × List Int,gU (vZ h.fst l/\aDH h l/\aDI h/\(∀ z:Int,aDJ h z->tY z l)/\aDK h l=n) (bW e h.fst a) (v/\iG (mH b h.snd.snd) e c a h.fst) (q=is h.snd.fst) (k=is h.snd.snd)) (dU m 1 (gJ m 2 (True/\True/\aM (zZ2 1 8 b 1 k G) (∃ g:Nat × List Int × List Int,gU (vZ g.fst l/\aDH g l/\aDI g/\(∀ y:Int,aDJ g y->tY y l)/\aDK g l=n) (bW e g.fst a) (v/\iG (mH (b+1) g.snd.snd) e c a g.fst) (q=is g.snd.fst) (k++G=is g.snd.snd)))) 2 (dC m 3 (True/\p/\True/\eW D 0 C/\gV (aAG b) (True/\p/\True/\gO F b/\uF (aZ (jR k E 1)) (tY u l) (gL (kE u 1) q) (aH p (aM (aAS b) (∃ f:Nat × List Int × List Int,gU (vZ f.fst l/\aDH f l/\aDI f/\(∀ x:Int,aDJ f x->tY x l)/\aDK f l=n) (bW e f.fst a) (v/\iG (mH (Int.toNat F) f.snd.snd) e c a f.fst) (List.set q (aY u 1) (nH a)=is f.snd.fst) (pN E 1 k=is f.snd.snd))))))) (gV (m==3) (mW 0 [] 9=s)))))) (pV a d->True/\p/\True/\(nE D 0->True/\True/\C)/\nJ (b:Int) 0 (True/\True/\mW d t 0=s))))))) ?_;delta eS aY bY aZ cZ jR aE aI aF aH aK bD aX eW gU gJ aM gV nH nG dO aT gO gL nJ gW bL gD gF aAH mG mH pN nI mF nE aAG cL kS aU fY cR bQ bT eG dC gM tQ zP dU vZ aV cI bU cP mJ bW cB mK gA cV tY kG gY aAS kZ pV uF fX gB kE aGR zG iG sP mX mW qM aDI aDJ aDK aDH;simp only [sS];simp only [zQw];have hM:∀ n:Nat,n<=100000->n<=maxLen:=λn h=>by unfold maxLen; omega
  clear hwf;refine ⟨⟨by omega,by omega,by have:=hM _ hl; omega,by omega⟩,⟨(0,List.replicate l.length 0,[]),⟨Nat.zero_le _,by simp,by simp,by simp,rfl⟩,?_⟩,λz hz=>⟨λhlt=>?_,λhge=>?_⟩⟩
  ·exact ⟨⟨rfl,rfl⟩,by simp [is],rfl⟩
  ·obtain ⟨k,out,op⟩:=z;obtain ⟨z1,z2,z3,z4,z5⟩:=hz;simp only at *;have hk:k<l.length:=by omega
   have q1:=zKD hk;have q2:=zKE hk;have w1:wrap .i64 ((k:Int)+1)=((k+1:Nat):Int):=by rw [wQb _ ⟨by omega,by omega⟩]; omega
   have hd:l.drop k=l[k]::l.drop (k+1):=wZS hk;have is_s:∀ (L:List Int) (j:Nat) (v:Int),(is L).set j (.int .i64 v)=is (L.set j v):=λL j v=>by simp [is]
   have io:(is out).length=out.length:=zQz out;rw [hd,runE] at z5;simp only [Nat.add_zero,q2,w1,wQo,is_s];generalize l[k]=o at *;refine ⟨⟨by omega,by omega,by rw [zQC]; omega⟩,q1,⟨by omega,by omega⟩,by omega,λh1=>?_,λh1=>⟨λh2=>?_,λh2=>⟨λh3=>?_,λh3=>?_⟩⟩⟩
   ·have h1:o.kind=1:=by simpa using h1
    rw [if_pos h1] at z5;exact ⟨(k+1,out.set k k,op),⟨by simp only; omega,by simp only [wZp]; omega,by simp only; omega,z4,z5⟩,by simp only; omega,⟨rfl,rfl⟩,rfl,rfl⟩
   ·have h1:¬ o.kind=1:=by simpa using h1
    have h2:o.kind=2:=by simpa using h2
    rw [if_neg h1,if_pos h2] at z5;refine ⟨⟨by simp [zQz],rfl,hM _ (by omega),by omega⟩,(k+1,out.set k k,op++[(k:Int)]),⟨by simp only; omega,by simp only [wZp]; omega,by simp; omega,?_,z5⟩,by simp only; omega,⟨by simp,rfl⟩,rfl,by simp [is]⟩;intro p hp
    rcases List.mem_append.1 hp with hp | hp
    ·exact z4 p hp
    ·rw [wQj] at hp; omega
   ·have h1:¬ o.kind=1:=by simpa using h1
    have h2:¬ o.kind=2:=by simpa using h2
    have h3:o.kind=3:=by simpa using h3
    rw [if_neg h1,if_neg h2,if_pos h3] at z5;refine ⟨hM _ (by omega),λh4=>?_,λh4=>?_⟩
    ·have h4:op=[]:=List.length_eq_zero_iff.1 (by simpa using h4);rw [if_pos h4] at z5;rw [<- z5];exact ⟨⟨rfl,rfl⟩,rfl⟩
    ·have h4:0<op.length:=by
      have:¬ op.length=0:=by simpa using h4
      omega
     have h5:op≠[]:=by intro e; rw [e] at h4; simp at h4
     rw [if_neg h5] at z5;have w2:wrap .i64 ((op.length:Int)-1)=((op.length-1:Nat):Int):=by rw [wQb _ ⟨by omega,by omega⟩]; omega
     obtain ⟨p,hp2⟩:∃ p,op[op.length-1]?=some p:=⟨_,List.getElem?_eq_getElem (by omega)⟩
     have hpb:=z4 p (wZ3 hp2);have n2:nAt (is op) (op.length-1)=p:=by simp [nAt,is,hp2]
     have n2':(is op)[op.length-1]?=some (.int .i64 p):=by simp [is,hp2]
     rw [hp2,wQF] at z5;simp only [w2,wQl,n2];refine ⟨hM _ (by omega),⟨by omega,by omega⟩,n2',⟨by omega,by omega⟩,by rw [zQz,wZp]; omega,hM _ (by omega),⟨by omega,by omega⟩,(k+1,(out.set k k).set p.toNat k,op.dropLast),⟨by simp only; omega,by simp only [wZp]; omega,by simp; omega,λq hq=>z4 q (List.dropLast_subset _ hq),z5⟩,by simp only; omega,⟨by simp,rfl⟩,rfl,?_⟩;simp [is,wZT]
   ·have h1:¬ o.kind=1:=by simpa using h1
    have h2:¬ o.kind=2:=by simpa using h2
    have h3:¬ o.kind=3:=by simpa using h3
    rw [if_neg h1,if_neg h2,if_neg h3] at z5;rw [<- z5];exact ⟨⟨rfl,rfl⟩,rfl⟩
  ·obtain ⟨k,out,op⟩:=z;obtain ⟨z1,z2,z3,z4,z5⟩:=hz;simp only at *;have hk:k=l.length:=by omega
   subst hk;rw [wYj,runE] at z5;refine ⟨hM _ (by omega),λh=>?_,λh=>?_⟩
   ·have h5:op≠[]:=by intro e; rw [e] at h; simp at h
    rw [if_neg h5] at z5;rw [<- z5];exact ⟨⟨rfl,rfl⟩,rfl⟩
   ·have h5:op=[]:=List.length_eq_zero_iff.1 (by omega);rw [if_pos h5] at z5;rw [<- z5];exact ⟨⟨z2.symm,rfl⟩,rfl⟩
theorem Occ.next {s:Scr} (hv:s.run.1=0) {k:Nat} {f:Fo} (h:Occ s (foOf s) k f) (hf:0<f.size):∃ f2,Occ s (foOf s) (enAt s k+1) f2/\enAt s k+1+f2.size=k+f.size/\zQE s f=bxAt s k::zQE s f2/\(opAt s k).kind≠3/\k<=enAt s k/\k<s.ops.length:=by
 have hz:=zZH hv;have hs:=(zXu hv).2;have g:∀ {q:Nat} {o:Oq},(foOf s).flat[q]?=some o->opAt s q=o:=λ{q o} hq=>by
  unfold opAt;have:s.ops[q]?=some o:=by rw [<- hq]; exact congrArg (λl:List Oq=>l[q]?) hs
  rw [this]; rfl
 cases f with
 | nil=>simp [Fo.size] at hf
 | draw o r=>
  obtain ⟨k1,k0,k2,k3,k4,k5⟩:=h.draw;have hk:k<s.ops.length:=by omega
  have e:enAt s k=k:=by rw [(zXv hv hk).2,k3]
  exact ⟨r,by rw [e]; exact k5,by rw [e]; simp only [Fo.size]; omega,by rw [zKw hv hk,k4]; rfl,by rw [g k2,k1]; decide,by omega,hk⟩
 | grp o kf r=>
  obtain ⟨k1,k0,k2,k3,k4,k5,k6,k7,k8,k9⟩:=h.grp;have hk:k<s.ops.length:=by omega
  have e:enAt s k=k+kf.size+1:=by rw [(zXv hv hk).2,k4]
  exact ⟨r,by rw [e]; exact k9,by rw [e]; simp only [Fo.size]; omega,by rw [zKw hv hk,k6]; rfl,by rw [g k2,k1]; decide,by omega,hk⟩
theorem jHH {s:Scr} {p:Nat} (h:p<s.ops.length):opAt s p=s.ops[p]:=by unfold opAt; rw [List.getElem?_eq_getElem h]; rfl
end
theorem zHJ {s:Scr} (h:s.run.1=0) {p q:Nat} (hp:p<s.ops.length) (h1:p<q) (h2:q<enAt s p):enAt s q<enAt s p:=by
 have he:=zUJ h hp;have:=zKt (foOf s) 0 p q (by omega) (by rw [<- zZH h]; omega) h1 (by rw [<- (zXv h hp).2]; exact h2);rw [(zXv h hp).2,(zXv h (p:=q) (by omega)).2];exact this
theorem zXx (s:Scr) (r:Rc) (i:Nat):zXE s r i=true↔hitB s r i=true/\∀ j,j<i->(opAt s j).kind=2->i<enAt s j->hitB s r j=true:=by
 unfold zXE jUM;rw [wQf,List.all_eq_true];refine and_congr_right λ_=>⟨λh j h1 h2 h3=>?_,λh j h1=>?_⟩
 ·have:=h j (wQw.2 h1);simpa [h2,h3] using this
 ·have:=h j (wQw.1 h1);by_cases c1:(opAt s j).kind=2<;>by_cases c2:i<enAt s j<;>simp [c1,c2];exact this c1 c2
theorem jJ7 {s:Scr} (h:s.run.1=0) (r:Rc) {p:Nat} (hp:p<s.ops.length) (h2:(opAt s p).kind=2):zXE s r (enAt s p)=zXE s r p:=by
 obtain ⟨p1,p2,p3,p4⟩:=jX0 h hp h2;have he:=zUJ h hp;rw [wYd,zXx,zXx];have e:hitB s r (enAt s p)=hitB s r p:=by unfold hitB; rw [p3]
 rw [e];refine and_congr_right λhb=>⟨λg j j1 j2 j3=>?_,λg j j1 j2 j3=>?_⟩
 ·refine g j (by omega) j2 ?_;exact zHJ h (by omega) j1 j3
 ·rcases wYn j p with c | c | c
  ·exact g j c j2 (by omega)
  ·subst c; exact hb
  ·have:=zHJ h hp c j1;omega
def Scn.scr (s:Scn):Scr:=⟨s.bits,s.c,s.gtw,s.gth,s.ord,s.ims,s.ops⟩
theorem Scn.scr_run (s:Scn):s.scr.run=(0,0):=by
 have li:=s.ims_len;have lo:=s.ops_len;have f:=s.frame_ok (mn:=s.ims.length) (pn:=s.ops.length) (by omega) (by omega)
 show opsE s.bits s.c s.gtw s.gth s.ord s.ims.length s.ops=_
 unfold opsE;rw [if_pos f];exact s.ops_run
section
attribute [local irreducible] Ans AnsO AnsG AnsN AnsI
def yQU:Gam:=yQT.add [.p 156 (λ| [.agg [.int _ bits,.int _ cx0,.int _ cy0,.int _ cx1,.int _ cy1,.int _ tw,.int _ th,.sl on oxs,.sl mn mxs,.sl pn pxs]]=>some (RV.tup [RV.d (dS (zXm (⟨bits,⟨cx0,cy0,cx1,cy1⟩,tw,th,ints oxs,zQI mxs,zQl pxs⟩:Scr)).1.length (rcs (zXm (⟨bits,⟨cx0,cy0,cx1,cy1⟩,tw,th,ints oxs,zQI mxs,zQl pxs⟩:Scr)).1)),rJ (zXm (⟨bits,⟨cx0,cy0,cx1,cy1⟩,tw,th,ints oxs,zQI mxs,zQl pxs⟩:Scr)).2]) | _=>none),
 .p 77 (λ| [.d (.sl pn pxs)]=>let a:=(zZy (zQl pxs)); some (RV.tup [RV.d (dS a.1.length (is a.1)),rJ a.2]) | _=>none)]
def aAU (a:List (Nat × AV)) (b:Nat) (c:Scr) (d:List Cl) (e:Nat) (f:List Cl) (g:List (Nat × Bx)):Snap:=yM a b (xN c d) e f g
def sR (a:List Int):DV:=DV.sl (List.length a) (is a)
def aEM (a:Nat) (b:Scr) (c:Rc):Prop:=cB a (dV b) (Live b c a)
def aIL (a:Int) (b:Nat):Prop:=DV.int IntKind.i64 a=nH b
def aEN (a:Bool) (b:Prop):Prop:=gI a (True/\True/\b)
theorem zUK (s:Scr) (r:Rc):Ans prog 81 [rA (sD s),rA [dJ r.a,dJ r.b,dJ r.c,dJ r.d]] (rT [rD (dS ((zXe s r).1.length) (bs (zXe s r).1)),rJ (((zXe s r).2))]):=
 zQa (Γ:=yQU) (let b:=zXm (qL s ⟨s.c.a,s.c.b,s.c.c,s.c.d⟩);vQ (eF (Ann.loop (Inv.mk Nat (λ(d:Nat)=>aEM d s r) (λ(a:Nat)=>aAU (gC 2 2 3 3 (sT 6 (DV.sl (List.length b.fst) (rcs b.fst)) 8 (sR (mX (zQl (fD s)))) (tN 10 28 (dV s) 11 a []))) 2 s [] 3 (dY r.a r.b r.c r.d []) (jU 28 4 1 (bs (zYX s r a)))) (λ(c:Nat)=>dV s-c)) (λ(e:Nat)=>aL)))) zQb Tryz.func81 rfl (nL rfl) λhwf=>by
  refine Eq.mpr (by kernel_rfl:_=(let p:=mW (List.length (zXe s r).fst) (bs (zXe s r).fst) (zXe s r).snd;let d:=dV s;let l:=zXm (qL s s.c);let c:=List.length l.fst;let b:=rcs l.fst;let m:=zQl (fD s);let n:=eS (sR (mX m));let o:=gD c b;let h:=is (mX m);let B:=List.length (mX m);let E:=(c:Int);let i:=l.snd;True/\True/\bV (bF 156 (mL s) [] (mW c b i)) (sV (fI i) (True/\True/\mW 0 [] i=p) (hZ i) (aM (dL 77 (dO d (fD s)) (mW B h (zZy m).snd)) (iY (mF E 1) (∃ j:Nat,aEM j s r/\oK (bP (mG o n (oR E d) j)) (mL s) (oB r) (aAH (c:Int) yW (bs (zYX s r j)))) (∀ a:Nat,let k:=bs (zYX s r a);let q:=dE b a 4;let t:=eH b a 4;let u:=dT b a 4;let v:=bT b a 4;let w:=(⟨v,u,t,q⟩:Rc);let x:=Rc.empty (Rc.inter w r);let g:=List.set k (aT a 1) (DV.bool (!x));let y:=(∃ e:Nat,iT (aEM e s r) (bW (dV s) e a) (bP (gW o n (eS d) a e)) (mL s) (oB r) (g=bs (zYX s r e)));let z:=nAt (fD s) (aT a 12+0);let A:=bAt g (aT a 1);let C:=gO (a:Int) d;let D:=cU (Rc.inter w r);aEM a s r->eZ (bY (gY a c) (True/\True/\eG a c 4 b/\aF (gM b a 4) (kS b (aT a 4) 1) (fY b (aT a 4)) (tQ b a 4)/\cZ (Ans prog 157 [lB v u t q,cU r] D) (dL 40 D (aB x)) (C/\gL (gF a 1) k/\eS true/\True/\aH (aCA a s 12) (yP (kS (fD s) (aT a 12) 0) (gJ z 2 (True/\C/\yP (kG g (aT a 1)) (uR A->sU (eG a B 1 h) (gM h a 1) (True/\True/\True/\True/\(∃ f:Nat,iT (aEM f s r) (bW (dV s) f a) (bP (aF o n (eS d) (aIL (aI (bT h a 1+1)) f))) (mL s) (oB r) (g=bs (zYX s r f))))) (aEN A y))) (fP (z==2) true y)))) (eX a c false (True/\True/\mW d k 0=p))))))))) ?_;delta eS aY bY aZ cZ aI aF aH gJ iQ aM iS oK fM bP iT oB nH nG dO aT gO gL gW gD gF aAH mG mF eZ bF kS fY bT eG bV eX dT dE eH gM iY tQ zP aB sM lB bW cB tU cU kG gY qA dV fG fD aGD mL yP fP dL gI oR yW fI hZ aCA sR qL aEM mX aIL uR sU sV aEN mW;simp only [sS,zQq,zQN,zQZ]
  (try simp only [zJy,zYP,zZF,zQ5,zQw])
  have hsE:(⟨s.bits,s.c,s.tw,s.th,s.ord,s.ims,s.ops⟩:Scr)=s:=rfl
  (try simp only [hsE])
  clear hsE;have bA:=zGm s
  try simp only [zJy,zYP,zZF,zQ5,zQw] at bA
  by_cases h0:¬ s.run.1=0
  ·have e1:=jUC h0;have e2:zXe s r=([],s.run.1):=by unfold zXe; rw [if_neg h0]
   rw [e1] at bA;rw [e1,e2];exact ⟨bA,λ_=>⟨⟨rfl,rfl⟩,rfl⟩,λh=>absurd (by simpa using h) h0⟩
  have h0:s.run.1=0:=wZU.1 h0;obtain ⟨_,e2,e3⟩:=jK5 h0;have eA:zXe s r=((List.range s.ops.length).map (zXE s r),0):=by unfold zXe; rw [if_pos h0]
  refine ⟨bA,λh=>absurd e2 (by simpa using h),λ_=>?_⟩;obtain ⟨fl1,fl2⟩:=jYC (zY8 h0).1;have hM:∀ n:Nat,n<=10000->n<=maxLen:=λn h=>by unfold maxLen; omega
  have el:=(jGE h0).1;have eE:=zWt s.ops (by omega);rw [zQw] at eE;rw [eA];simp only [e3];clear hwf bA;refine ⟨eE,⟨by omega,Int.le_refl _,by have:=hM s.ops.length (by omega); omega,by omega⟩,⟨0,⟨Nat.zero_le _,jWX s r⟩,⟨trivial,rfl⟩,by rw [jVY,yQd]⟩,λk hk=>⟨λhlt=>?_,λhge=>?_⟩⟩
  ·obtain ⟨hk0,hL⟩:=hk;have hk:k<s.ops.length:=by omega
   have b1:=zVP (zXm s).1 k (by omega);have b2:=zV6 (show k<(zXm s).1.length by omega);have eb:(zXm s).1[k]=bxAt s k:=by unfold bxAt; rw [List.getElem?_eq_getElem (by omega)]; rfl
   rw [eb] at b1 b2;have heta:(⟨(bxAt s k).a,(bxAt s k).b,(bxAt s k).c,(bxAt s k).d⟩:Rc)=bxAt s k:=rfl;have eh:(!((bxAt s k).inter r).empty)=hitB s r k:=rfl;simp only [b2,heta,eh];have q1:=zKD hk;have q2:=zKE hk;have eo:opAt s k=s.ops[k]:=jHH hk;have w1:wrap .i64 ((k:Int)+1)=((k+1:Nat):Int):=zZ3 (by omega);simp only [Nat.add_zero,wQo,q2,<- eo,yQ4,<- zWP hL,jZi];have ng:=jKS (jJ1 h0 hk);have ne:=jW3 (jJ1 h0 hk);have ei:=zUJ h0 hk;have g:(zYX s r (k+1))[k]?=some (hitB s r k):=by rw [<- zWP hL]; simp [zYX,hk]
   have gb:=jUB g;have gg:=jUA g;simp only [gb,ne,w1];refine ⟨⟨by omega,by omega,by rw [zXC]; omega⟩,b1,zQq _ _ _ _ _ _ _ _,zQN _ _ _ _,⟨by omega,by omega⟩,by rw [zHP,jUK]; omega,⟨by omega,by omega,by rw [zQC]; omega⟩,by rw [eo]; exact q1.1,λh2=>⟨⟨by omega,by omega⟩,gg,λhb=>?_,λhb=>?_⟩,λh2=>?_⟩
   ·have h2:(opAt s k).kind=2:=by simpa using h2
    obtain ⟨l1,l2⟩:=jWY h0 hk hL h2 hb;have l3:zYX s r (k+1)=zYX s r k:=by
     rw [<- jZi,zWP hL,hb];refine wQ1 (by simp) λi i1 i2=>?_;rw [List.getElem_set];split
     ·rename_i e; subst e; simp [zYX]
     ·rfl
    exact ⟨⟨by omega,by omega,by rw [zQz]; omega⟩,ng,enAt s k+1,⟨by omega,l1⟩,by omega,by rw [wQb _ ⟨by omega,by omega⟩]; omega,by rw [l2,l3]⟩
   ·exact ⟨k+1,⟨by omega,jYc hL (by rw [hb]; simp)⟩,by omega,rfl,rfl⟩
   ·have h2:(opAt s k).kind≠2:=by simpa using h2
    exact ⟨k+1,⟨by omega,jYc hL (λh=>h2 h.1)⟩,by omega,rfl,rfl⟩
  ·obtain ⟨hk0,hL⟩:=hk;have:k=s.ops.length:=by omega
   subst this;rw [jUL];exact ⟨⟨by simp,rfl⟩,trivial⟩
def ptB (r:Rc) (x y:Int):Int × Int:=(wrap .i64 (r.a+modS x (wrap .i64 (r.c-r.a))),wrap .i64 (r.b+modS y (wrap .i64 (r.d-r.b))))
theorem jHy {r:Rc} (h : -100<=r.a/\r.c<=100 /\ -100<=r.b/\r.d<=100/\r.a<r.c/\r.b<r.d) (x y:Int):r.has (ptB r x y).1 (ptB r x y).2=true:=by
 obtain ⟨h1,h2,h3,h4,h5,h6⟩:=h;unfold ptB;rw [wQb (r.c-r.a) ⟨by omega,by omega⟩,wQb (r.d-r.b) ⟨by omega,by omega⟩];have a:=@zZa x (r.c-r.a) (by omega) (by omega);have b:=@zZa y (r.d-r.b) (by omega) (by omega);rw [wQb _ ⟨by omega,by omega⟩,wQb _ ⟨by omega,by omega⟩];have he:r.empty=false:=by rw [Rc.empty_iff]; omega
 simp only [Rc.has,he];simp;omega
def yQJ:Gam:=yQU.add []
theorem jKe (r:Rc) (x y:Int):Ans prog 17 [rA [dJ r.a,dJ r.b,dJ r.c,dJ r.d],rJ (x),rJ (y)] (rT [rJ (((ptB r x y).1)),rJ (((ptB r x y).2))]):=
 zQa (Γ:=yQJ) aL zQb Tryz.func17 rfl (nL rfl) λhwf=>by
  refine Eq.mpr (by kernel_rfl:_=(True/\True/\aG (dN (vO x (aX r.c r.a) []) (True/\True/\True/\vO y (aX r.d r.b) []/\dA (eJ (aI (r.a+modS x (aX r.c r.a))) (aI (r.b+modS y (aX r.d r.b))) []=vX (ptB r x y)))))) ?_;delta eS aI aG aK aX jE dN dA vO zP eJ vX;simp only [sS];simp [ptB,zQh]
def pkI (op:Int) (x:Iv):Iv:=if faB op=true then x else ivZ
def zZB (s:Scr) (x y:Int):Px:=zKJ (zGj s.ops).oper (srcS s.ims (zGj s.ops) x y)
def stI (s:Scr) (x y:Int) (k:Nat):Px:=if k=0 then .zero else zZB s x y
theorem jVj (xs ys:List DV) (h:xs.length=32) (h2:ys.length=32):sets xs 0 ys=ys:=by
 rw [zV2 _ _ _ (by omega)];have:xs.drop (0+ys.length)=[]:=List.drop_eq_nil_of_le (by omega);rw [this]; simp
def ivD (x:Iv):List DV:=[.int .i64 x.lo,.int .i64 x.hi]
def lvD (p:Px) (m:Int):List DV:=[.int .i64 0,.int .i64 0,.int .i64 0,.int .i64 0,.int .i64 0,.int .i64 0,.int .i64 0,.int .u16 0,.int .i64 0,.int .i64 0,.bool true,.bool false]++ivD (zQt p.a m)++ivD (zQt p.b m)++ivD (zQt p.c m)++ivD (zQt p.al m)++ivD (zQt p.al m)++ivD (zQt p.f m)++ivD ivZ++ivD ivZ++ivD ivZ++ivD ivZ
def jGw:Gam:=yQJ.add [.p 55 (λ| [.agg [.int _ pa,.int _ pb,.int _ pc,.int _ pal,.int _ pf],.d (.int _ m)]=>some (RV.agg [dJ (zQt (⟨pa,pb,pc,pal,pf⟩:Px).a m).lo,dJ (zQt (⟨pa,pb,pc,pal,pf⟩:Px).a m).hi,dJ (zQt (⟨pa,pb,pc,pal,pf⟩:Px).b m).lo,dJ (zQt (⟨pa,pb,pc,pal,pf⟩:Px).b m).hi,dJ (zQt (⟨pa,pb,pc,pal,pf⟩:Px).c m).lo,dJ (zQt (⟨pa,pb,pc,pal,pf⟩:Px).c m).hi,dJ (zQt (⟨pa,pb,pc,pal,pf⟩:Px).al m).lo,dJ (zQt (⟨pa,pb,pc,pal,pf⟩:Px).al m).hi,dJ (zQt (⟨pa,pb,pc,pal,pf⟩:Px).f m).lo,dJ (zQt (⟨pa,pb,pc,pal,pf⟩:Px).f m).hi]) | _=>none),
 .p 101 (λ| [.agg [.int _ ual,.int _ uah,.int _ ubl,.int _ ubh,.int _ ucl,.int _ uch,.int _ uall,.int _ ualh,.int _ ufl,.int _ ufh],.agg [.int _ kl,.int _ kh]]=>some (RV.agg [dJ 0,dJ 0,dJ 0,dJ 0,dJ 0,dJ 0,dJ 0,dJ 0,dJ 0,dJ 0]) | _=>none),
 .p 54 (λ| [.agg [.int _ okind,.int _ oimage,.int _ ox,.int _ oy,.int _ omask,.int _ omx,.int _ omy,.int _ oopac,.int _ ooper,.int _ omode,.bool oiso,.bool okno],.agg [.int _ ual,.int _ uah,.int _ ubl,.int _ ubh,.int _ ucl,.int _ uch,.int _ uall,.int _ ualh,.int _ ufl,.int _ ufh],.d (.int _ mask),.d (.int _ most)]=>some (RV.agg [dJ ual,dJ uah,dJ ubl,dJ ubh,dJ ucl,dJ uch,dJ uall,dJ ualh,dJ ufl,dJ ufh]) | _=>none),
 .p 53 (λ| [.agg [.int _ z0,.int _ z1,.int _ z2,.int _ z3,.int _ z4,.int _ z5,.int _ z6,.int _ z7,.int _ z8,.int _ z9,.bool z10,.bool z11,.int _ z12,.int _ z13,.int _ z14,.int _ z15,.int _ z16,.int _ z17,.int _ z18,.int _ z19,.int _ z20,.int _ z21,.int _ z22,.int _ z23,.int _ z24,.int _ z25,.int _ z26,.int _ z27,.int _ z28,.int _ z29,.int _ z30,.int _ z31],.d (.int _ op),.d (.int _ mode),.agg [.int _ ual,.int _ uah,.int _ ubl,.int _ ubh,.int _ ucl,.int _ uch,.int _ uall,.int _ ualh,.int _ ufl,.int _ ufh]]=>some (RV.agg [dJ 0,dJ 0,dJ 0,dJ 0,dJ 0,dJ 0,dJ 0,dK 0,dJ 0,dJ 0,dQ true,dQ false,dJ (pkI op (⟨ual,uah⟩:Iv)).lo,dJ (pkI op (⟨ual,uah⟩:Iv)).hi,dJ (pkI op (⟨ubl,ubh⟩:Iv)).lo,dJ (pkI op (⟨ubl,ubh⟩:Iv)).hi,dJ (pkI op (⟨ucl,uch⟩:Iv)).lo,dJ (pkI op (⟨ucl,uch⟩:Iv)).hi,dJ (pkI op (⟨uall,ualh⟩:Iv)).lo,dJ (pkI op (⟨uall,ualh⟩:Iv)).hi,dJ (pkI op (⟨uall,ualh⟩:Iv)).lo,dJ (pkI op (⟨uall,ualh⟩:Iv)).hi,dJ (pkI op (⟨ufl,ufh⟩:Iv)).lo,dJ (pkI op (⟨ufl,ufh⟩:Iv)).hi,dJ 0,dJ 0,dJ 0,dJ 0,dJ 0,dJ 0,dJ 0,dJ 0]) | _=>none)]
def aIV (a b c:Int) (d:Px) (e:Int):List Cl:=zR a b c d.al e
def aIH (a b:Int) (d:Px) (e:Int):List Cl:=aIV a b d.c d e
def aIG (a:Int) (c:Px) (d:Int):List Cl:=aIH a c.b c d
def aII (b:Px) (c:Int):List Cl:=aIG b.a b c
def sK (a:Px):List Cl:=aII a a.f
def qF (a b:Int):Int:=(zQt a b).lo
def qG (a b:Int):Int:=(zQt a b).hi
def xG (a b:Int) (c:List DV):List DV:=iQ a b 0 0 c
def mT (a:List DV):List DV:=xG 0 0 a
def aCB (a b c d e f g h i j:Int):RV:=RV.agg (DV.int IntKind.i64 a::DV.int IntKind.i64 b::iQ c d e f (fM g h i j))
def pB (a:FuncId) (b c:Int) (d:List RV) (e:RV):Prop:=Ans prog a (aP b::aP c::d) e
def zH (a b:Int) (c:List RV):Prop:=pB 102 a b c (aN (zQt a b))
theorem jYX (p:Px) (m:Int) (hm:1<=m):Ans prog 55 [rA (pD p),rD (dK m)] (rA [dJ ((zQt p.a m).lo),dJ ((zQt p.a m).hi),dJ ((zQt p.b m).lo),dJ ((zQt p.b m).hi),dJ ((zQt p.c m).lo),dJ ((zQt p.c m).hi),dJ ((zQt p.al m).lo),dJ ((zQt p.al m).hi),dJ ((zQt p.f m).lo),dJ ((zQt p.f m).hi)]):=
 zQa (Γ:=jGw) (let a:=dY (qF p.al m) (qG p.al m) (qF p.f m) (qG p.f m) [];let b:=qG p.a m;let c:=qF p.a m;let d:=nB a;eF (Ann.link (Inv.mk Unit (λ(h:Unit)=>True) (λ(l:Unit)=>aEG (aFY 1 (aE m) 2 2 4 4 (aCF 5 5 6 0)) 2 (sK p) 4 (nB []) 5 (cS 0 0 d) []) (λ(f:Unit)=>(0:Nat))) (λ(i:Unit)=>mQ true) (Ann.link (Inv.mk Unit (λ(h:Unit)=>True) (λ(k:Unit)=>aEG (aFY 1 (aE m) 2 2 4 4 (aCF 5 5 6 1)) 2 (sK p) 4 (nB []) 5 (cS c b d) []) (λ(f:Unit)=>(0:Nat))) (λ(i:Unit)=>mQ true) (Ann.link (Inv.mk Unit (λ(h:Unit)=>True) (λ(j:Unit)=>aEG (uK m 2 (gC 4 4 5 5 (aEF 6 2))) 2 (sK p) 4 (nB []) 5 (cS c b (aEB (qF p.b m) (qG p.b m) a)) []) (λ(f:Unit)=>(0:Nat))) (λ(i:Unit)=>mQ true) (Ann.link (Inv.mk Unit (λ(h:Unit)=>True) (λ(g:Unit)=>aEG (aFY 1 (aE m) 2 2 4 4 (aCF 5 5 6 3)) 2 (sK p) 4 (nB []) 5 (cS c b (dY (qF p.b m) (qG p.b m) (qF p.c m) (qG p.c m) a)) []) (λ(f:Unit)=>(0:Nat))) (λ(e:Unit)=>mQ false) aL))))) zQb Tryz.func55 rfl (nL rfl) λhwf=>by
  refine Eq.mpr (by kernel_rfl:_=(let d:=qG p.f m;let e:=qF p.f m;let f:=qG p.al m;let g:=qF p.al m;let h:=qG p.b m;let i:=qF p.b m;let a:=qG p.a m;let b:=qF p.a m;let j:=DV.int IntKind.i64 0;let c:=j::j::mT vV;let k:=fM g f e d;let l:=mT k;lX (zH p.al m []) (aK (zH p.f m []) (True/\eS true/\True/\(∃ v:Unit,uJ (fN m (bN (pQ gN))) (dB p) c 0 0 l)/\aF (∀ u:Unit,True->aH wR (aH (fL 3) (wG (zH p.a m []) (fL 3) (∃ t:Unit,uJ (fN m (bN (fE 0 1))) (dB p) c b a l)))) (∀ s:Unit,True->aH wT (aH (iX 3) (wG (zH p.b m []) (iX 3) (∃ r:Unit,uJ (fN m (bN (fE 1 2))) (dB p) c b a (xG i h k))))) (∀ q:Unit,True->aH wX (aH (jT 3) (wG (zH p.c m []) (jT 3) (∃ o:Unit,uJ (fN m (bN (fE 2 3))) (dB p) c b a (iQ i h (qF p.c m) (qG p.c m) (fM g f e d)))))) (∀ n:Unit,jW (aK wY (eS (aCB b a i h (qF p.c m) (qG p.c m) g f e d)))))))) ?_;delta eS aE aI aF aP aH aK oF dR fL lX kD iQ eC bG oK fM bN fN aW iX jT dB vV bE gN jW wG pQ lM fE wR wX wT wY aN qF qG xG mT aCB uJ pB zH;simp only [sS];simp only [RV.wfs,RV.wf,DV.wf,DV.wfs] at hwf;have mi:IntKind.min .i64 = -9223372036854775808:=rfl;have ma:IntKind.max .i64=9223372036854775807:=rfl;have mj:IntKind.min .u16=0:=rfl;have mb:IntKind.max .u16=65535:=rfl;simp only [mi,ma,mj,mb] at hwf;obtain ⟨⟨⟨a0,_⟩,⟨b0,_⟩,⟨c0,_⟩,⟨l0,_⟩,⟨f0,_⟩,_⟩,_⟩:=hwf
  (repeat' (first | apply And.intro | refine Exists.intro () ?_))<;>first | exact jYV _ _ (by assumption) hm | exact trivial | rfl | decide | omega
theorem jQv (o:Oq) (ua ub uc ual uf:Iv) (mask most:Int) (h0:o.mask=0) (h1:o.opac=most):Ans prog 54 [rA (oD o),rA [dJ ua.lo,dJ ua.hi,dJ ub.lo,dJ ub.hi,dJ uc.lo,dJ uc.hi,dJ ual.lo,dJ ual.hi,dJ uf.lo,dJ uf.hi],rD (dK mask),rD (dK most)] (rA [dJ ua.lo,dJ ua.hi,dJ ub.lo,dJ ub.hi,dJ uc.lo,dJ uc.hi,dJ ual.lo,dJ ual.hi,dJ uf.lo,dJ uf.hi]):=
 zQa (Γ:=jGw) aL zQb Tryz.func54 rfl (nL rfl) λhwf=>by
  refine Eq.mpr (by kernel_rfl:_=(let c:=aCB ua.lo ua.hi ub.lo ub.hi uc.lo uc.hi ual.lo ual.hi uf.lo uf.hi;let b:=o.opac;let d:=(b !=most)=false;let e:=DV.int IntKind.i64 0;let a:=rA (e::e::mT vV);let f:=a=c;let g:=lY f;let h:=[aN (zQt b most)];let i:=iQ ub.lo ub.hi uc.lo uc.hi (fM ual.lo ual.hi uf.lo uf.hi);let j:=(b !=most)=true;aV (True/\True/\True/\dX (fI o.mask=true) (zH mask most []) (fH (yN 101 ua.lo ua.hi i [aN (zQt mask most)] a) (eS true) (tH j (True/\True/\zH b most []/\Ans prog 101 (a::h) a/\g) d f))/\(fI o.mask=false->True/\tH j (True/\True/\zH b most []/\yN 101 ua.lo ua.hi i h a/\g) d (eS c))))) ?_;delta eS bY tH aE aP aK dX lY iQ fM vV aV yN fI uF fH aN xG mT aCB pB zH;simp only [sS];exact ⟨λh=>absurd h (by simp [h0]),λ_=>⟨λh=>absurd h (by simp [h1]),λ_=>trivial⟩⟩
def aBY (a:Int) (b:Nat) (c:Int) (d:Nat) (e:List (Nat × AV)):List (Nat × AV):=aAJ a (aHD b c d e)
def kK (a:Int) (b:Iv):Int:=(pkI a b).lo
def kL (a:Int) (b:Iv):Int:=(pkI a b).hi
def aHL (a:Int) (b c:Bool) (d:List DV):List DV:=iS a 0 0 0 0 0 0 (aE 0::oT 0 0 b (DV.bool c::d))
def qB (a:List DV):List DV:=aHL 0 true false a
def aCG (a:Int) (b c:Iv) (d:List DV):List DV:=iQ (kK a b) (kL a b) (kK a c) (kL a c) d
theorem jXs (lz:Unit) (op mode:Int) (ua ub uc ual uf:Iv) (h1:ua.un/\ub.un/\uc.un/\ual.un/\uf.un):Ans prog 53 [rA [dJ 0,dJ 0,dJ 0,dJ 0,dJ 0,dJ 0,dJ 0,dK 0,dJ 0,dJ 0,dQ (true:Bool),dQ (false:Bool),dJ 0,dJ 0,dJ 0,dJ 0,dJ 0,dJ 0,dJ 0,dJ 0,dJ 0,dJ 0,dJ 0,dJ 0,dJ 0,dJ 0,dJ 0,dJ 0,dJ 0,dJ 0,dJ 0,dJ 0],rJ (op),rJ (mode),rA [dJ ua.lo,dJ ua.hi,dJ ub.lo,dJ ub.hi,dJ uc.lo,dJ uc.hi,dJ ual.lo,dJ ual.hi,dJ uf.lo,dJ uf.hi]] (rA [dJ 0,dJ 0,dJ 0,dJ 0,dJ 0,dJ 0,dJ 0,dK 0,dJ 0,dJ 0,dQ true,dQ false,dJ ((pkI op ua).lo),dJ ((pkI op ua).hi),dJ ((pkI op ub).lo),dJ ((pkI op ub).hi),dJ ((pkI op uc).lo),dJ ((pkI op uc).hi),dJ ((pkI op ual).lo),dJ ((pkI op ual).hi),dJ ((pkI op ual).lo),dJ ((pkI op ual).hi),dJ ((pkI op uf).lo),dJ ((pkI op uf).hi),dJ 0,dJ 0,dJ 0,dJ 0,dJ 0,dJ 0,dJ 0,dJ 0]):=
 zQa (Γ:=jGw) (let f:=facI op ual ⟨0,0⟩;let g:=f.snd;let h:=f.fst;let b:=oZ 12 (cS h.lo h.hi []) (oY 13 (cS g.lo g.hi []));let e:=nB (nB (nB (nB [])));let i:=nB e;let c:=gK 0 0 0 0 0 0 0 (nZ 0 0 0 false false i);let d:=dY ub.lo ub.hi uc.lo uc.hi (dY ual.lo ual.hi uf.lo uf.hi []);let a:=gK 0 0 0 0 0 0 0 (nZ 0 0 0 true false i);dZ (vP (xE false) (pM (Ann.link (Inv.mk Unit (λ(m:Unit)=>True) (λ(q:Unit)=>aEH (aBY op 2 mode 4 (uL 7 (sA 9 12 13 14 0))) 4 a 7 ua.lo ua.hi d 8 c (oZ 9 a b)) (λ(k:Unit)=>(0:Nat))) (λ(n:Unit)=>mQ true) (Ann.link (Inv.mk Unit (λ(m:Unit)=>True) (λ(p:Unit)=>aEH (aBY op 2 mode 4 (uL 7 (sA 9 12 13 14 1))) 4 a 7 ua.lo ua.hi d 8 c (oZ 9 (gK 0 0 0 0 0 0 0 (nZ 0 0 0 true false (aEB (kK op ua) (kL op ua) e))) b)) (λ(k:Unit)=>(0:Nat))) (λ(n:Unit)=>mQ true) (Ann.link (Inv.mk Unit (λ(m:Unit)=>True) (λ(o:Unit)=>aEH (aBY op 2 mode 4 (uL 7 (sA 9 12 13 14 2))) 4 a 7 ua.lo ua.hi d 8 c (oZ 9 (gK 0 0 0 0 0 0 0 (nZ 0 0 0 true false (dY (kK op ua) (kL op ua) (kK op ub) (kL op ub) e))) b)) (λ(k:Unit)=>(0:Nat))) (λ(n:Unit)=>mQ true) (Ann.link (Inv.mk Unit (λ(m:Unit)=>True) (λ(l:Unit)=>aEH (aBY op 2 mode 4 (uL 7 (sA 9 12 13 14 3))) 4 a 7 ua.lo ua.hi d 8 c (oZ 9 (gK 0 0 0 0 0 0 0 (nZ 0 0 0 true false (dY (kK op ua) (kL op ua) (kK op ub) (kL op ub) (aEB (kK op uc) (kL op uc) (nB (nB (nB []))))))) b)) (λ(k:Unit)=>(0:Nat))) (λ(j:Unit)=>mQ false) aL))))))) zQb Tryz.func53 rfl (nL rfl) λhwf=>by
  refine Eq.mpr (by kernel_rfl:_=(let f:=DV.int IntKind.i64 0;let w:=f::f::vV;let a:=(⟨0,0⟩:Iv);let q:=zWz op uf a;let r:=zU0 op ual a;let x:=r.hi;let y:=r.lo;let d:=[mS];let z:=sJ 99 op ual d (aN r);let A:=facI op ual a;let e:=A.snd;let g:=sM e.lo e.hi;let b:=A.fst;let h:=sM b.lo b.hi;let i:=mT (mT vV);let s:=mulI e a;let c:=notI a;let j:=addI (mulI c uc) a;let B:=addI (mulI b j) s;let C:=pH B;let D:=mT (mT i);let k:=eS (aHL 0 false false D);let l:=eS (DV.int IntKind.i64 ua.lo::DV.int IntKind.i64 ua.hi::iQ ub.lo ub.hi uc.lo uc.hi (fM ual.lo ual.hi uf.lo uf.hi));let E:=f::f::mT (vH 0::aE 0::oT 0 0 true (DV.bool false::D));let m:=eS E;let t:=zE e d a;let u:=aN ual::mS::d;let v:=dL 94 mS (aN c);let n:=mT i;let o:=addI (mulI c ub) a;let F:=addI (mulI b o) s;let G:=pH F;let p:=addI (mulI c ua) a;let H:=addI (mulI b p) s;let I:=pH H;xH (aM (eS false) (eV (sJ 98 op ual d (rT [aN b,aN e])) (True/\True/\True/\(∃ R:Unit,True/\lI op mode (bP (bP (pQ gN)))/\m/\l/\oK k E h (eS g))/\aF (∀ Q:Unit,True->aH wR (aK v (fH (fL 3) (lH c ua) (eV (fL 3) (rN 0 0 (cG (sJ 95 mode ua u mS) (iP 92 (mulI c ua) d p) (iW (aM (lH b p) (uF (fL 3) t (aBV (mulI b p) e a []) (fH (aCD H []) (fL 3) (iW (∃ P:Unit,True/\lI op mode (bP (bP (fE 0 1)))/\m/\l/\gS k (qB (xG I.lo I.hi n)=qB (xG (kK op ua) (kL op ua) n)) h g)))))))))))) (∀ O:Unit,True->aH wT (aK v (fH (iX 3) (lH c ub) (eV (iX 3) (rN 1 1 (cG (sJ 95 mode ub u mS) (iP 92 (mulI c ub) d o) (iW (aM (lH b o) (uF (iX 3) t (aBV (mulI b o) e a []) (fH (aCD F []) (iX 3) (iW (∃ M:Unit,True/\lI op mode (bP (bP (fE 1 2)))/\m/\l/\gS k (qB (iQ (kK op ua) (kL op ua) G.lo G.hi n)=qB (aCG op ua ub n)) h g)))))))))))) (∀ L:Unit,True->aH wX (aK v (fH (jT 3) (lH c uc) (eV (jT 3) (rN 2 2 (cG (sJ 95 mode uc u mS) (iP 92 (mulI c uc) d j) (iW (aM (lH b j) (uF (jT 3) t (aBV (mulI b j) e a []) (fH (aCD B []) (jT 3) (iW (∃ K:Unit,True/\lI op mode (bP (bP (fE 2 3)))/\m/\l/\gS k (qB (aCG op ua ub (xG C.lo C.hi i))=qB (aCG op ua ub (xG (kK op uc) (kL op uc) i))) h g)))))))))))) (∀ J:Unit,oQ (aM wY (eV z (aM z (eV (sJ 100 op uf d (aN q)) (lY (rA (qB (aCG op ua ub (iQ (kK op uc) (kL op uc) y x (DV.int IntKind.i64 y::DV.int IntKind.i64 x::xG q.lo q.hi w))))=rA (qB (aCG op ua ub (aCG op uc ual (DV.int IntKind.i64 (kK op ual)::DV.int IntKind.i64 (kL op ual)::xG (kK op uf) (kL op uf) w)))))))))))))))) ?_;delta eS vH aE aI aF aG aH aK oF eV fL lY kD iQ eC aM bG iS oK oT fM bP cG aW iW iX jT gX vV bE pF sM gN pQ rN dL lM oQ fE wR wX wT wY uF fH lI aN mS iP zE sJ lH aBV pH xG aHL mT kK kL qB aCD gS xH aCG;simp only [sS];obtain ⟨xa,xb,xc,xl,xf⟩:=h1;have pa:=zG9 op ual xa (facI op ual ivZ).2;have pb:=zG9 op ual xb (facI op ual ivZ).2;have pc:=zG9 op ual xc (facI op ual ivZ).2;have al:=jUJ op xl;have sh:=jWm op xf
  (repeat' (first | apply And.intro | refine Exists.intro () ?_))<;>first | exact zVh op ual ivZ | exact zWk ivZ | exact zZq _ _ | exact jY1 _ _ _ ivZ () | exact zJf _ ivZ | exact zZq _ ivZ | exact zJf _ _ | exact zZv _ _ | exact jXt op ual ivZ | exact jXq op uf ivZ | exact congrArg Iv.lo pa | exact congrArg Iv.hi pa | exact congrArg Iv.lo pb | exact congrArg Iv.hi pb | exact congrArg Iv.lo pc | exact congrArg Iv.hi pc | exact congrArg Iv.lo al | exact congrArg Iv.hi al | exact congrArg Iv.lo sh | exact congrArg Iv.hi sh | exact trivial | rfl | decide
end
section
attribute [local irreducible] Ans AnsO AnsG AnsN AnsI
attribute [local irreducible] zQt zZK pkI
def yQR:Gam:=jGw.add [.p 19 (λ| [.agg [.int _ bits,.int _ cx0,.int _ cy0,.int _ cx1,.int _ cy1,.int _ tw,.int _ th,.sl on oxs,.sl mn mxs,.sl pn pxs],.d (.int _ x),.d (.int _ y)]=>let e:=(zQo bits); some (RV.agg [dJ (zQt (zZB (⟨bits,⟨cx0,cy0,cx1,cy1⟩,tw,th,ints oxs,zQI mxs,zQl pxs⟩:Scr) x y).a e).lo,dJ (zQt (zZB (⟨bits,⟨cx0,cy0,cx1,cy1⟩,tw,th,ints oxs,zQI mxs,zQl pxs⟩:Scr) x y).a e).hi,dJ (zQt (zZB (⟨bits,⟨cx0,cy0,cx1,cy1⟩,tw,th,ints oxs,zQI mxs,zQl pxs⟩:Scr) x y).b e).lo,dJ (zQt (zZB (⟨bits,⟨cx0,cy0,cx1,cy1⟩,tw,th,ints oxs,zQI mxs,zQl pxs⟩:Scr) x y).b e).hi,dJ (zQt (zZB (⟨bits,⟨cx0,cy0,cx1,cy1⟩,tw,th,ints oxs,zQI mxs,zQl pxs⟩:Scr) x y).c e).lo,dJ (zQt (zZB (⟨bits,⟨cx0,cy0,cx1,cy1⟩,tw,th,ints oxs,zQI mxs,zQl pxs⟩:Scr) x y).c e).hi,dJ (zQt (zZB (⟨bits,⟨cx0,cy0,cx1,cy1⟩,tw,th,ints oxs,zQI mxs,zQl pxs⟩:Scr) x y).al e).lo,dJ (zQt (zZB (⟨bits,⟨cx0,cy0,cx1,cy1⟩,tw,th,ints oxs,zQI mxs,zQl pxs⟩:Scr) x y).al e).hi,dJ (zQt (zZB (⟨bits,⟨cx0,cy0,cx1,cy1⟩,tw,th,ints oxs,zQI mxs,zQl pxs⟩:Scr) x y).f e).lo,dJ (zQt (zZB (⟨bits,⟨cx0,cy0,cx1,cy1⟩,tw,th,ints oxs,zQI mxs,zQl pxs⟩:Scr) x y).f e).hi]) | _=>none)]
def aFW (a:Nat) (b:DV) (c d e:Nat) (f:List (Nat × AV)):List (Nat × AV):=zL a b c (Cl.ref d e) f
def aHW (a:Bool) (b:List DV):List DV:=DV.bool a::b
def fW (a b:Int) (c:List RV):List RV:=aP a::aP b::c
def aGC (a:List DV) (b c:Nat):Prop:=a[b]?=some (DV.int IntKind.i64 (nAt a c))
def cY (a:Scr) (b c:Int) (d e:Nat):Int:=nAt (lvD (stI a b c d) (zQo a.bits)) e
def dW (a:Scr) (b c:Int) (d e:Nat):Prop:=aGC (lvD (stI a b c d) (zQo a.bits)) e e
def lK (a:Int) (b:Scr):Int:=qF a (zQo b.bits)
def lL (a:Int) (b:Scr):Int:=qG a (zQo b.bits)
def sL (a:Int) (b:Scr):Iv:=zQt a (zQo b.bits)
def aEE (a:Scr) (b c:Int) (d e f:Nat):Iv:=⟨cY a b c d e,cY a b c d f⟩
theorem jXu (s:Scr) (x y:Int) (hu:∀ m∈s.ims,m.isU) (hi:zJI (zQo s.bits) s.ims) (o:Oq) (ho:s.ops=[o]) (hk1:o.kind=1) (h0:o.mask=0) (h1:o.opac=zQo s.bits):Ans prog 19 [rA (sD s),rJ (x),rJ (y)] (rA [dJ ((zQt (zZB s x y).a (zQo s.bits)).lo),dJ ((zQt (zZB s x y).a (zQo s.bits)).hi),dJ ((zQt (zZB s x y).b (zQo s.bits)).lo),dJ ((zQt (zZB s x y).b (zQo s.bits)).hi),dJ ((zQt (zZB s x y).c (zQo s.bits)).lo),dJ ((zQt (zZB s x y).c (zQo s.bits)).hi),dJ ((zQt (zZB s x y).al (zQo s.bits)).lo),dJ ((zQt (zZB s x y).al (zQo s.bits)).hi),dJ ((zQt (zZB s x y).f (zQo s.bits)).lo),dJ ((zQt (zZB s x y).f (zQo s.bits)).hi)]):=
 zQa (Γ:=yQR) (let a:=zQo s.bits;let d:=cS 0 0 (nB (nB []));oU (Ann.loop (Inv.mk Nat (λ(l:Nat)=>kW l s) (λ(e:Nat)=>aAU (aBY x 2 y 3 (yK 6 7 a (tN 9 27 1 10 e []))) 3 s [] 6 d (jU 27 124 32 (lvD (stI s x y e) a))) (λ(k:Nat)=>dV s-k)) (λ(b:Nat)=>let f:=lvD (stI s x y b) a;pM (Ann.cut (Inv.mk Oq (λ(j:Oq)=>zGj s.ops=j/\b=0) (λ(i:Oq)=>aAU (uI x y (gC 3 3 6 6 (aFW 7 (aE a) 9 27 1 (aHD 10 (b:Int) 11 (oJ 12 (cV 1) 44 1 []))))) 3 s [] 6 d (zF 27 124 32 f (oY 11 (tK i [])))) (λ(o:Oq)=>(0:Nat))) aL (λ(c:Oq)=>cT (Ann.sure true (Ann.cut (Inv.mk Px (λ(h:Px)=>h=srcS s.ims c x y) (λ(g:Px)=>aAU (aBY x 2 y 3 (yK 6 7 a (tN 9 27 1 10 b (aBZ 11 11 12 (cV 1) (yK 13 14 (zX7 (zQI (fG s)) c x y) []))))) 3 s [] 6 d (aAO 27 124 32 f 11 (tK c []) (oY 13 (sK g)))) (λ(n:Px)=>(0:Nat))) aL (λ(m:Px)=>aL)))))))) zQb Tryz.func19 rfl (nL rfl) λhwf=>by
  refine Eq.mpr (by kernel_rfl:_=(let g:=zZB s x y;let h:=[rD (DV.int IntKind.i64 1099511627776)];let f:=zQo s.bits;let F:=DV.int IntKind.i64 0;let k:=F::F::mT vV;let t:=bZ f;xD (fC 14 s.bits (tZ s.bits)) (iV (∃ m:Nat,cB m (dV s) (oK (lI x y (mG (eS (0:Nat)) t (eS (1:Nat)) m)) (mL s) k (qB (mT (mT (mT (mT vV))))=lvD (stI s x y m) f))) (∀ a:Nat,let n:=pH (aEE s x y a 22 23);let o:=pH (aEE s x y a 18 19);let p:=pH (aEE s x y a 16 17);let q:=pH (aEE s x y a 14 15);let r:=pH (aEE s x y a 12 13);let b:=lvD (stI s x y a) f;let B:=dW s x y a 0/\dW s x y a 1/\dW s x y a 2/\dW s x y a 3/\cL (dW s x y a 4) (dW s x y a 5) (dW s x y a 6) (bD b 7 (cY s x y a 7)) (dW s x y a 8) (dW s x y a 9) (b[(10:Nat)]?=some (DV.bool (bAt b 10))) (b[(11:Nat)]?=some (DV.bool (bAt b 11))) (cL (dW s x y a 12) (dW s x y a 13) (dW s x y a 14) (dW s x y a 15) (dW s x y a 16) (dW s x y a 17) (dW s x y a 18) (dW s x y a 19) (cL (dW s x y a 20) (dW s x y a 21) (dW s x y a 22) (dW s x y a 23) (dW s x y a 24) (dW s x y a 25) (dW s x y a 26) (dW s x y a 27) (aF (dW s x y a 28) (dW s x y a 29) (dW s x y a 30) (dW s x y a 31))));let w:=aT a 12;kW a s->True/\True/\True/\True/\True/\dX (gY a (dV s)) (aCA a s 12) (fH (zG (fD s) a 12 (dM s (aT a 12)) (dM s (gF a 12)) (dM s (cI w)) (dM s (bU w)) (dM s (cP w))) (1<=maxLen) (True/\True/\True/\(True/\True/\(∃ A:Oq,iT (zGj s.ops=A/\a=0) (lI x y (bN (eC (aE f) (eS (1:Nat)) (aF (gA a) (eS (0:Nat)) (bG (cV 1)) (bE (bT (fD s) a 12) 1))))) (eS (mL s)) k b (aFX (fD s) a 12 (dF s (aT a 12)) (dF s (gF a 12)) (dF s (cI w)) (dF s (mK a 12)) (dF s (bU w)) (dF s (cP w))=Oq.cells A)))/\(∀ e:Oq,let c:=e.oper;let u:=zX7 (zQI (fG s)) e x y;let v:=Oq.cells e;let G:=srcS s.ims e x y;let H:=dB (srcS (zQI (fG s)) e x y);zGj s.ops=e/\a=0->True/\True/\((1:Int)==1)=true/\aV (dN (bF 52 (mL s) (rA v::iN x y []) (aBR H u)) (∃ z:Px,z=G/\iT (lI x y (mI t (eS (1:Nat)/\gA a/\eS (0:Nat)/\bG (cV 1)/\pQ (bZ u)))) (eS (mL s)) (eS k) b v (H=dB z)))/\(∀ d:Px,let C:=kL c (sL d.al s);let D:=kK c (sL d.al s);let E:=qB (iS (kK c (sL d.a s)) (kL c (sL d.a s)) (kK c (sL d.b s)) (kL c (sL d.b s)) (kK c (sL d.c s)) (kL c (sL d.c s)) D (DV.int IntKind.i64 C::DV.int IntKind.i64 D::iQ C (kK c (sL d.f s)) (kL c (sL d.f s)) 0 (iS 0 0 0 0 0 0 0 [])));let l:=aCB (lK d.a s) (lL d.a s) (lK d.b s) (lL d.b s) (lK d.c s) (lL d.c s) (lK d.al s) (lL d.al s) (lK d.f s) (lL d.f s);d=G->True/\True/\True/\True/\cG (gO (cV 1) 1) B (lX (bF 55 (dB d) [aP f] l) (bF 54 v (l::fW u f []) l/\bF 53 (iS (cY s x y a 0) (cY s x y a 1) (cY s x y a 2) (cY s x y a 3) (cY s x y a 4) (cY s x y a 5) (cY s x y a 6) (aE (cY s x y a 7)::oT (cY s x y a 8) (cY s x y a 9) (bAt b 10) (aHW (bAt b 11) (iQ (cY s x y a 12) (cY s x y a 13) (cY s x y a 14) (cY s x y a 15) (iQ (cY s x y a 16) (cY s x y a 17) (cY s x y a 18) (cY s x y a 19) (iQ (cY s x y a 20) (cY s x y a 21) (cY s x y a 22) (cY s x y a 23) (iQ (cY s x y a 24) (cY s x y a 25) (cY s x y a 26) (cY s x y a 27) (fM (cY s x y a 28) (cY s x y a 29) (cY s x y a 30) (cY s x y a 31))))))))) (iN c e.mode [l]) (rA E)/\gO (cV 1) 1/\gL ((0:Nat)+32) b/\iW (∃ j:Nat,iT (kW j s) (bW (dV s) j a) (lI x y (gW (eS (0:Nat)) t (eS (1:Nat)) a j)) (mL s) k (sets b (0:Nat) E=lvD (stI s x y j) f))))))))/\bL (pV a (dV s)) (fL 1) (aM B (fH (fL 3) (aBX (cY s x y a 12) (cY s x y a 13) h (aN r)) (cL (iX 3) True (aBX (cY s x y a 14) (cY s x y a 15) h (aN q)) True (jT 3) True (aBX (cY s x y a 16) (cY s x y a 17) h (aN p)) True (aK (aBX (cY s x y a 18) (cY s x y a 19) h (aN o)) (kV (aBX (cY s x y a 22) (cY s x y a 23) h (aN n)) (aCB r.lo r.hi q.lo q.hi p.lo p.hi o.lo o.hi n.lo n.hi=aCB (lK g.a s) (lL g.a s) (lK g.b s) (lL g.b s) (lK g.c s) (lL g.c s) (lK g.al s) (lL g.al s) (lK g.f s) (lL g.f s))))))))))) ?_;delta eS aY aE aI aF aP aK oF dR bD aX fL dX lX iQ eC aM bG iS oK oT fM bN cG bZ pL dN iT iV aW nH nG aT gO gL gW bL gF mG iW cL iX jT bF kS aU fY bQ bT eG gX dB dT dE eH gM tQ vV aB bE pF aV cI bU cP bW cB iN mK tU gA cV kG gY fC kV mI pQ qA dV fG fD kW aGD mL tZ pV uF fH lI fX gB aBR aN aBX aHW fW aGC pH dF dM cY dW qF qG aGR xG lK lL aHL mT kK kL sL zG qB xD aEE aCB aCA aFX;simp only [sS];simp only [zQ5,zQw];have hop:zGj s.ops=o:=by rw [ho]; rfl
  have m1:1<=zQo s.bits:=(zQ4 hi.full).1;have mM:zQo s.bits<=65535:=(zQ4 hi.full).2;have mx:=zYq s.bits;have sam:=jQw s o x y hu;obtain ⟨pok,pnn⟩:=zUN hi o x y;obtain ⟨vok,vnn⟩:=jZT (op:=o.oper) m1 pok pnn;have ev:zZB s x y=zKJ o.oper (srcS s.ims o x y):=by unfold zZB; rw [hop]
  generalize zQo s.bits=m at *;generalize hp:srcS s.ims o x y=p at *;have lz:lvD (stI s x y 0) m=[.int .i64 0,.int .i64 0,.int .i64 0,.int .i64 0,.int .i64 0,.int .i64 0,.int .i64 0,.int .u16 0,.int .i64 0,.int .i64 0,.bool true,.bool false,.int .i64 0,.int .i64 0,.int .i64 0,.int .i64 0,.int .i64 0,.int .i64 0,.int .i64 0,.int .i64 0,.int .i64 0,.int .i64 0,.int .i64 0,.int .i64 0,.int .i64 0,.int .i64 0,.int .i64 0,.int .i64 0,.int .i64 0,.int .i64 0,.int .i64 0,.int .i64 0]:=by
   have e:stI s x y 0=.zero:=rfl;rw [e];unfold lvD ivD;simp only [Px.zero,jXA m1];rfl
  have hl:s.ops.length=1:=by rw [ho]; rfl
  refine ⟨mx,⟨0,Nat.zero_le _,rfl,lz.symm⟩,λk hk=>⟨λhlt=>?_,λhge=>?_⟩⟩
  ·have k0:k=0:=by omega
   have hkl:k<s.ops.length:=by omega
   have q1:=zKD hkl;have q2:=zKE hkl;have eo:s.ops[k]=o:=by subst k0; simp [ho]
   have lb:0<=(k:Int)/\(k:Int)<(s.ops.length:Int)/\k*12<(ops s.ops).length:=⟨by omega,by omega,by rw [zQC]; omega⟩
   have lk:lvD (stI s x y k) m=[.int .i64 0,.int .i64 0,.int .i64 0,.int .i64 0,.int .i64 0,.int .i64 0,.int .i64 0,.int .u16 0,.int .i64 0,.int .i64 0,.bool true,.bool false,.int .i64 0,.int .i64 0,.int .i64 0,.int .i64 0,.int .i64 0,.int .i64 0,.int .i64 0,.int .i64 0,.int .i64 0,.int .i64 0,.int .i64 0,.int .i64 0,.int .i64 0,.int .i64 0,.int .i64 0,.int .i64 0,.int .i64 0,.int .i64 0,.int .i64 0,.int .i64 0]:=by rw [k0]; exact lz
   rw [eo] at q1 q2;simp only [q2,lk];refine ⟨lb,q1,by unfold maxLen; omega,⟨o,⟨hop,k0⟩,hk1,rfl⟩,λo' ho'=>?_⟩;clear q1 q2 lb;have:o'=o:=by rw [<- ho'.1,hop]
   subst this;simp only [hp];refine ⟨rfl,⟨sam,p,rfl,rfl,rfl,rfl,rfl,rfl⟩,λp' hp'=>?_⟩;subst hp';obtain ⟨g1,g2,g3,g4,g5⟩:=Px.ok_iff.1 pok;obtain ⟨g6,g7,g8⟩:=pnn;have ux:∀ n,0<=n->n<=m->(zQt n m).un:=λn a b=>(zGC a b m1 mM).1;have LI:=jYX p' m m1;have SC:=jQv o' (zQt p'.a m) (zQt p'.b m) (zQt p'.c m) (zQt p'.al m) (zQt p'.f m) (zX7 s.ims o' x y) m h0 h1;have PA:=jXs () o'.oper o'.mode (zQt p'.a m) (zQt p'.b m) (zQt p'.c m) (zQt p'.al m) (zQt p'.f m) ⟨ux _ g6 (by omega),ux _ g7 (by omega),ux _ g8 (by omega),ux _ (by omega) (by omega),ux _ (by omega) (by omega)⟩;have pk:∀ f:Px->Int,f .zero=0->pkI o'.oper (zQt (f p') m)=zQt (f (zKJ o'.oper p')) m:=λf hf=>by
    unfold pkI zKJ;split
    ·rfl
    ·rw [hf]; exact (jXA m1).symm
   have ea:=pk Px.a rfl;have eb:=pk Px.b rfl;have ec:=pk Px.c rfl;have el:=pk Px.al rfl;have ef:=pk Px.f rfl;simp only [ea,eb,ec,el,ef] at PA |-;have e:stI s x y (k+1)=zKJ o'.oper p':=by unfold stI; rw [if_neg (by omega),ev]
   have w1:wrap .i64 ((k:Int)+1)=((k+1:Nat):Int):=zZ3 (by omega);simp only [wZR,wZL,nAt,bAt,true_and]
   (repeat' (first | apply And.intro))<;>first | exact LI | exact SC | exact PA | exact ⟨k+1,by omega,by omega,w1,by rw [e]; exact (jVj _ _ rfl rfl).trans rfl⟩ | rfl | decide
  ·have e:stI s x y k=zKJ o.oper p:=by unfold stI; rw [if_neg (by omega),ev]
   have lv:∀ P:Px,lvD P m=[.int .i64 0,.int .i64 0,.int .i64 0,.int .i64 0,.int .i64 0,.int .i64 0,.int .i64 0,.int .u16 0,.int .i64 0,.int .i64 0,.bool true,.bool false,.int .i64 (zQt P.a m).lo,.int .i64 (zQt P.a m).hi,.int .i64 (zQt P.b m).lo,.int .i64 (zQt P.b m).hi,.int .i64 (zQt P.c m).lo,.int .i64 (zQt P.c m).hi,.int .i64 (zQt P.al m).lo,.int .i64 (zQt P.al m).hi,.int .i64 (zQt P.al m).lo,.int .i64 (zQt P.al m).hi,.int .i64 (zQt P.f m).lo,.int .i64 (zQt P.f m).hi,.int .i64 0,.int .i64 0,.int .i64 0,.int .i64 0,.int .i64 0,.int .i64 0,.int .i64 0,.int .i64 0]:=λ_=>rfl;simp only [e,ev,lv,wZR,wZL,nAt,bAt,true_and];generalize zKJ o.oper p=V at *;obtain ⟨g1,g2,g3,g4,g5⟩:=Px.ok_iff.1 vok;obtain ⟨g6,g7,g8⟩:=vnn;have ux:∀ n,0<=n->n<=m->zZK (zQt n m) 1099511627776=zQt n m:=λn a b=>zGy (zGC a b m1 mM).1;have ca:=ux V.a g6 (by omega);have cb:=ux V.b g7 (by omega);have cc:=ux V.c g8 (by omega);have cl:=ux V.al (by omega) (by omega);have cf:=ux V.f (by omega) (by omega)
   (repeat' (first | apply And.intro))<;>first | exact zZv ⟨_,_⟩ _ | exact congrArg Iv.lo ca | exact congrArg Iv.hi ca | exact congrArg Iv.lo cb | exact congrArg Iv.hi cb | exact congrArg Iv.lo cc | exact congrArg Iv.hi cc | exact congrArg Iv.lo cl | exact congrArg Iv.hi cl | exact congrArg Iv.lo cf | exact congrArg Iv.hi cf | rfl | decide
end
end Go.Proofs.YtbnmadpcdlnleaaGreatDoor
