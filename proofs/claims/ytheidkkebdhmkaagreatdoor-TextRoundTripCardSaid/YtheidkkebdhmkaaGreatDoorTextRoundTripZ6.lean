/-
  Part 6 of what TextRoundTrip rests on.
-/
import Derived.Test.YtheidkkebdhmkaaGreatDoorTextRoundTripZ5
import Derived.Lib.UnsafeStr
import Derived.Test.YtheidkkebdhmkaaGreatDoorTextRoundTripZ4
import Derived.Test.YtheidkkebdhmkaaGreatDoorTextRoundTripZ3
import Derived.Test.YtheidkkebdhmkaaGreatDoorTextRoundTripZ2
import Derived.Test.YtheidkkebdhmkaaGreatDoorRows
import Derived.JoinedOf
import Derived.KernelRfl
import Derived.Test.YtheidkkebdhmkaaGreatDoorTextRoundTripZ1
import Derived.MakeChecks
import Derived.LaidHandle
import Derived.LaidMore
import Derived.Stop.Joined
import Derived.Shelf.Vars
import Derived.Lay
namespace Go.Proofs.YtheidkkebdhmkaaGreatDoor
open Go.RowKit
set_option linter.unusedVariables false
set_option linter.unusedSimpArgs false
attribute [local irreducible] Ans AnsO AnsG AnsN AnsI
set_option maxHeartbeats 4000000
set_option maxRecDepth 4000
open Go.Lib
theorem Oq.eta_ (o:Oq):(⟨o.kind,o.image,o.x,o.y,o.mask,o.mx,o.my,o.opac,o.oper,o.mode,o.iso,o.kno⟩:Oq)=o:=rfl
def jt (ws:List Lb):Lb:=ws.flatMap fun x=>32::x
theorem jKR (a b:List Lb):jt (a++b)=jt a++jt b:=List.flatMap_append
theorem jX8 (w:Lb) (a:List Lb):jt (w::a)=32::w++jt a:=rfl
theorem zK5 (w:Lb) (a:List Lb):zZd (w::a)=w++jt a:=rfl
theorem zYV:∀ (l:List Int) (w:Lb),w≠[]→zQ3 w l=w++jt (digW l)
 | [],w,_=>by simp [zQ3,jt,digW]
 | n::l,w,h=>by
  have e:zQ3 w (n::l)=zQ3 ((if w=[] then [] else w++[32])++itoa n) l:=rfl
  rw [e,if_neg h,zYV l _ (by simp),show digW (n::l)=itoa n::digW l from rfl,jX8]
  simp
theorem jKP (w:Lb) (a b:List Int):zQ3 w (a++b)=zQ3 (zQ3 w a) b:=List.foldl_append
theorem jUv (n:Int):itoa n≠[]:=fun h=>by
 have:=(zKx n).1
 rw [h] at this
 exact (zU7 n.natAbs).2.2.1 this.symm
theorem zZN (w:Lb) (l:List Int) (h:w≠[]):zQ4 ([w]++digW l)=zQ3 w l++[10]:=by
 rw [zYV l w h]; rfl
theorem jJN (n:Int) (l:List Int):zQ4 (digW (n::l))=zQ3 [] (n::l)++[10]:=by
 have e:zQ3 [] (n::l)=zQ3 (itoa n) l:=rfl
 rw [e,zYV l _ (jUv n)]; rfl
theorem zGN (p:Px):zQ4 (digW (smpP p))=pxTx p:=jJN _ _
theorem zGM (m:Im) (h:m.so=true):zQ4 ([zQ9]++digW ([m.w,m.h]++smpP m.c))=imTx m:=by
 rw [zZN _ _ (by decide),jKP]
 unfold imTx; rw [if_pos h]
theorem zH7 (o:Oq) (h:o.kind=1):zQ4 ([zZ9]++digW [o.image,o.x,o.y,o.mask,o.mx,o.my,o.opac]++[ofS (zQj o.oper),ofS (zQc o.mode)])=opLn o:=by
 unfold opLn opTx
 rw [if_pos h,zYV _ _ (by decide)]
 unfold zQ4
 rw [List.append_assoc,show ([zZ9]++(digW [o.image,o.x,o.y,o.mask,o.mx,o.my,o.opac]++[ofS (zQj o.oper),ofS (zQc o.mode)]))=zZ9::(digW [o.image,o.x,o.y,o.mask,o.mx,o.my,o.opac]++[ofS (zQj o.oper),ofS (zQc o.mode)]) from rfl,zK5,jKR]
 simp [zVt,jt]
theorem zH6 (o:Oq) (h:o.kind=2):zQ4 ([zXi]++digW [o.mask,o.mx,o.my,o.opac]++[ofS (zQj o.oper),ofS (zQc o.mode)]++digW [bitN o.iso,bitN o.kno])=opLn o:=by
 unfold opLn opTx
 rw [if_neg (by omega),if_pos h,zYV _ _ (by decide),zYV _ _ (by simp [zVt])]
 unfold zQ4
 rw [List.append_assoc,List.append_assoc,show ∀ r,[zXi]++r=zXi::r from fun r=>rfl,zK5,jKR,jKR]
 simp [zVt,jt]
theorem jZ0 (o:Oq) (h:¬o.kind=1) (h2:¬o.kind=2):zQ4 [sPop]=opLn o:=by
 unfold opLn opTx
 rw [if_neg h,if_neg h2]; rfl
theorem jKv {l:List Px} {k:Nat} (h:k < l.length):(l.take (k+1)).flatMap pxTx=(l.take k).flatMap pxTx++pxTx l[k]:=by
 rw [List.take_add_one,List.getElem?_eq_getElem h,Option.toList_some,List.flatMap_append]; simp
theorem jUe (l:List Px) (k:Nat):((l.take k).flatMap pxTx).length≤(l.flatMap pxTx).length:=by
 conv=>rhs; rw [← List.take_append_drop k l,List.flatMap_append]
 simp
theorem writer_line_used' (n:Nat) (xs:List DV) (ws:List Lb) (l:List Int) (hn:xs.length=n) (hb:n+(zQ4 (ws++digW l)).length≤17592186044416) (hl:l.length≤1099511627776) (hw:ws.length≤1099511627776) :
  AnsG Tryz.prog 26 1 [AV.one (Cl.ptr 0 0),AV.one (Cl.ref 1 ws.length),AV.one (Cl.d (DV.sl l.length (is l)))] [Bx.cells [Cl.ptr 0 0,Cl.ref 2 n],Bx.row 9 1 (strs ws),Bx.row 5 1 xs]
   ⟨AV.tup [],[Bx.cells [Cl.ptr 0 0,Cl.ref 1 (n+(zQ4 (ws++digW l)).length)],Bx.row 5 1 (xs++zQf (toS (zQ4 (ws++digW l))))],false⟩:=by
 have:=zVb n xs ws l hn hb hl hw
 rw [zQZ,zQL] at this
 exact this
theorem writer_line_nil' (n:Nat) (xs:List DV) (l:List Int) (hn:xs.length=n) (hb:n+(zQ4 (digW l)).length≤17592186044416) (hl:l.length≤1099511627776) :
  AnsG Tryz.prog 26 1 [AV.one (Cl.ptr 0 0),AV.one Cl.nil,AV.one (Cl.d (DV.sl l.length (is l)))] [Bx.cells [Cl.ptr 0 0,Cl.ref 1 n],Bx.row 5 1 xs]
   ⟨AV.tup [],[Bx.cells [Cl.ptr 0 0,Cl.ref 1 (n+(zQ4 (digW l)).length)],Bx.row 5 1 (xs++zQf (toS (zQ4 (digW l))))],false⟩:=by
 have:=zVG n xs l hn hb hl
 rw [zQZ] at this
 exact this
theorem text_digits' (l:List Int) (hl:l.length≤1099511627776):AnsG Tryz.prog 57 0 [AV.one (Cl.d (DV.sl l.length (is l)))] [] ⟨AV.one (Cl.ref 0 (digW l).length),[Bx.row 9 1 (strs (digW l))],false⟩:=by
 have:=zXv l hl
 rw [zQZ] at this
 exact this
def jZ9:Gam where
 pure:=fun f xs=>
  if f=55 then (match xs with | [.d (.int _ op)]=>some (RV.d (DV.str (zQj op))) | _=>none) else
  if f=56 then (match xs with | [.d (.int _ op)]=>some (RV.d (DV.str (zQc op))) | _=>none) else
  if f=61 then (match xs with | []=>some (RV.tup [RV.tup [rJ (37),rJ (5)]]) | [.agg [.int _ w,.int _ h,.bool so,.int _ c0,.int _ c1,.int _ c2,.int _ ca,.int _ cf,.int _ w0,.int _ h0,.int _ s0,.sl n0 xs0,.int _ w1,.int _ h1,.int _ s1,.sl n1 xs1,.int _ w2,.int _ h2,.int _ s2,.sl n2 xs2,.int _ w3,.int _ h3,.int _ s3,.sl n3 xs3,.int _ w4,.int _ h4,.int _ s4,.sl n4 xs4]]=>some (RV.d (dS ((Im.pixels ⟨w,h,so,⟨c0,c1,c2,ca,cf⟩,⟨w0,h0,s0,n0,xs0⟩,⟨w1,h1,s1,n1,xs1⟩,⟨w2,h2,s2,n2,xs2⟩,⟨w3,h3,s3,n3,xs3⟩,⟨w4,h4,s4,n4,xs4⟩⟩).length) (pxs (Im.pixels ⟨w,h,so,⟨c0,c1,c2,ca,cf⟩,⟨w0,h0,s0,n0,xs0⟩,⟨w1,h1,s1,n1,xs1⟩,⟨w2,h2,s2,n2,xs2⟩,⟨w3,h3,s3,n3,xs3⟩,⟨w4,h4,s4,n4,xs4⟩⟩)))) | _=>none) else
  if f=60 then (match xs with | [.agg [.int _ c0,.int _ c1,.int _ c2,.int _ ca,.int _ cf]]=>some (RV.d (dS 5 (is (smpP (⟨c0,c1,c2,ca,cf⟩:Px))))) | _=>none) else
  if f=62 then (match xs with | [.d (.bool is_)]=>some (rJ ((bitN is_))) | _=>none) else
  none
 modes:=fun f=>
  if f=57 then some ([true],0,1) else
  if f=26 then some ([false,false,true],1,1) else
  if f=27 then some ([false,true],1,1) else
  if f=28 then some ([false,true],1,1) else
  none
 proc:=fun f xs bs=>
  if f=57 then (match xs,bs with | [AV.one (Cl.d (DV.sl kn kxs))],[]=>some ⟨AV.one (Cl.ref 0 ((digW (ints (kxs))).length)),[Bx.row 9 1 (strs (digW (ints (kxs))))],false⟩ | _,_=>none) else
  if f=26 then (match xs,bs with | [AV.one (Cl.ptr 0 0),AV.one (Cl.ref 1 wn),AV.one (Cl.d (DV.sl kn kxs))],[Bx.cells [Cl.ptr 0 0,Cl.ref 2 n],Bx.row _ _ wxs,Bx.row _ _ xs]=>some ⟨AV.tup [],[bC [Cl.ptr 0 0,Cl.ref 1 (n+(zQ4 (zQB (wxs)++digW (ints (kxs)))).length)],Bx.row 5 1 (xs++zQf (toS (zQ4 (zQB (wxs)++digW (ints (kxs))))))],false⟩ | [AV.one (Cl.ptr 0 0),AV.one (Cl.nil),AV.one (Cl.d (DV.sl kn kxs))],[Bx.cells [Cl.ptr 0 0,Cl.ref 1 n],Bx.row _ _ xs]=>some ⟨AV.tup [],[bC [Cl.ptr 0 0,Cl.ref 1 (n+(zQ4 ([]++digW (ints (kxs)))).length)],Bx.row 5 1 (xs++zQf (toS (zQ4 ([]++digW (ints (kxs))))))],false⟩ | [AV.one (Cl.ptr 0 0),AV.one (Cl.ref 1 wn),AV.one (Cl.d (DV.sl kn kxs))],[Bx.cells [Cl.lit (Value.pointer none),Cl.nil],Bx.row _ _ wxs]=>some ⟨AV.tup [],[bC [Cl.ptr 0 0,Cl.ref 1 (0+(zQ4 (zQB (wxs)++digW (ints (kxs)))).length)],Bx.row 5 1 ([]++zQf (toS (zQ4 (zQB (wxs)++digW (ints (kxs))))))],false⟩ | _,_=>none) else
  if f=27 then (match xs,bs with | [AV.one (Cl.ptr 0 0),AV.agg [Cl.d (DV.int _ w),Cl.d (DV.int _ h),Cl.d (DV.bool so),Cl.d (DV.int _ c0),Cl.d (DV.int _ c1),Cl.d (DV.int _ c2),Cl.d (DV.int _ ca),Cl.d (DV.int _ cf),Cl.d (DV.int _ w0),Cl.d (DV.int _ h0),Cl.d (DV.int _ s0),Cl.d (DV.sl n0 xs0),Cl.d (DV.int _ w1),Cl.d (DV.int _ h1),Cl.d (DV.int _ s1),Cl.d (DV.sl n1 xs1),Cl.d (DV.int _ w2),Cl.d (DV.int _ h2),Cl.d (DV.int _ s2),Cl.d (DV.sl n2 xs2),Cl.d (DV.int _ w3),Cl.d (DV.int _ h3),Cl.d (DV.int _ s3),Cl.d (DV.sl n3 xs3),Cl.d (DV.int _ w4),Cl.d (DV.int _ h4),Cl.d (DV.int _ s4),Cl.d (DV.sl n4 xs4)]],[Bx.cells [Cl.ptr 0 0,Cl.ref 1 n],Bx.row _ _ xs]=>some ⟨AV.tup [],[bC [Cl.ptr 0 0,Cl.ref 1 (n+(imTx ⟨w,h,so,⟨c0,c1,c2,ca,cf⟩,⟨w0,h0,s0,n0,xs0⟩,⟨w1,h1,s1,n1,xs1⟩,⟨w2,h2,s2,n2,xs2⟩,⟨w3,h3,s3,n3,xs3⟩,⟨w4,h4,s4,n4,xs4⟩⟩).length)],Bx.row 5 1 (xs++zQf (toS (imTx ⟨w,h,so,⟨c0,c1,c2,ca,cf⟩,⟨w0,h0,s0,n0,xs0⟩,⟨w1,h1,s1,n1,xs1⟩,⟨w2,h2,s2,n2,xs2⟩,⟨w3,h3,s3,n3,xs3⟩,⟨w4,h4,s4,n4,xs4⟩⟩)))],false⟩ | _,_=>none) else
  if f=28 then (match xs,bs with | [AV.one (Cl.ptr 0 0),AV.agg [Cl.d (DV.int _ okind),Cl.d (DV.int _ oimage),Cl.d (DV.int _ ox),Cl.d (DV.int _ oy),Cl.d (DV.int _ omask),Cl.d (DV.int _ omx),Cl.d (DV.int _ omy),Cl.d (DV.int _ oopac),Cl.d (DV.int _ ooper),Cl.d (DV.int _ omode),Cl.d (DV.bool oiso),Cl.d (DV.bool okno)]],[Bx.cells [Cl.ptr 0 0,Cl.ref 1 n],Bx.row _ _ xs]=>some ⟨AV.tup [],[bC [Cl.ptr 0 0,Cl.ref 1 (n+(opLn ⟨okind,oimage,ox,oy,omask,omx,omy,oopac,ooper,omode,oiso,okno⟩).length)],Bx.row 5 1 (xs++zQf (toS (opLn ⟨okind,oimage,ox,oy,omask,omx,omy,oopac,ooper,omode,oiso,okno⟩)))],false⟩ | _,_=>none) else
  none
 iter:=fun f cs=>
  none
def zJL (p:Px):Ann:=Ann.leaf
theorem zGa (p:Px):vcg Tryz.prog jZ9 22 (zQA Tryz.f60) (zJL p) kn0 (zQ0 [RV.agg [dK p.a,dK p.b,dK p.c,dK p.al,dK p.f]]) (post Tryz.prog Tryz.f60.results.toList (·=RV.d (dS 5 (is (smpP p))))) =
 (tU3 ((0≤(0:Int)∧(0:Int) < ((3:Nat):Int))∧tU3 ((0≤(1:Int)∧(1:Int) < ((3:Nat):Int))∧tU3 ((0≤(2:Int)∧(2:Int) < ((3:Nat):Int))∧tU2 (tU8 (RV.d (dS 5 ([dJ (wK p.a),dJ (wK p.b),dJ (wK p.c),dJ (wK p.al),dJ (wK p.f)]))=RV.d (dS 5 (is (smpP p))))))))):=by kernel_rfl
theorem zJK (p:Px):Ans Tryz.prog 60 [RV.agg [DV.int .u16 p.a,DV.int .u16 p.b,DV.int .u16 p.c,DV.int .u16 p.al,DV.int .u16 p.f]] (RV.d (DV.sl 5 (is (smpP p)))):=
 zQo (Γ:=jZ9) (zJL p) zQC Tryz.func60 rfl (Nat.le_of_ble_eq_true rfl) fun hwf=>by
  refine Eq.mpr (zGa p) ?_
  delta tU2 tU3 tU8 dJ wK dS
  simp only [true_and,and_true,RV.d.injEq,RV.agg.injEq,RV.tup.injEq,DV.bool.injEq,DV.int.injEq,DV.sl.injEq,List.cons.injEq,forall_const,Bool.not_false,Bool.not_true,Bool.not_eq_true',Bool.not_eq_false',decide_eq_true_eq,decide_eq_false_iff_not,Int.toNat_natCast]
  have hmn6:IntKind.min .u16=0:=by decide
  have hmx6:IntKind.max .u16=65535:=by decide
  simp only [RV.wfs,RV.wf,DV.wf,DV.wfs,hmn6,hmx6] at hwf
  have w:∀ n:Int,0≤n∧n≤65535→IntKind.wrap .i64 n=n:=fun n h=>IntWalk.i64_in _ ⟨by omega,by omega⟩
  rw [w p.a (by omega),w p.b (by omega),w p.c (by omega),w p.al (by omega),w p.f (by omega)]
  exact ⟨by decide,by decide,by decide,rfl⟩
def zWj (is_:Bool):Ann:=Ann.leaf
theorem jZr (is_:Bool):vcg Tryz.prog jZ9 4 (zQA Tryz.f62) (zWj is_) kn0 (zQ0 [RV.d (dQ is_)]) (post Tryz.prog Tryz.f62.results.toList (·=rJ ((bitN is_)))) =
 (tU2 (((is_=true→True∧rJ (1)=rJ ((bitN is_)))∧(is_=false→True∧rJ (0)=rJ ((bitN is_)))))):=by kernel_rfl
theorem zWi (is_:Bool):Ans Tryz.prog 62 [RV.d (DV.bool is_)] (RV.d (DV.int .i64 (bitN is_))):=
 zQo (Γ:=jZ9) (zWj is_) zQC Tryz.func62 rfl (Nat.le_of_ble_eq_true rfl) fun hwf=>by
  refine Eq.mpr (jZr is_) ?_
  delta tU2 rJ
  simp only [true_and,and_true,RV.d.injEq,RV.agg.injEq,RV.tup.injEq,DV.bool.injEq,DV.int.injEq,DV.sl.injEq,List.cons.injEq,forall_const,Bool.not_false,Bool.not_true,Bool.not_eq_true',Bool.not_eq_false',decide_eq_true_eq,decide_eq_false_iff_not,Int.toNat_natCast]
  exact ⟨fun h=>by rw [h]; rfl,fun h=>by rw [h]; rfl⟩
def zXY (n:Nat) (xs:List DV) (m:Im):Ann:=(Ann.seq Ann.leaf (Ann.seq Ann.leaf (Ann.seq Ann.leaf (Ann.seq Ann.leaf (Ann.loop ⟨Nat,fun k=>k≤m.pixels.length,fun k=>⟨[(0,aPz),(29,AV.one (Cl.ref 29 ((Im.pixels m).length))),(30,aJ (((((Im.pixels m).length:Nat):Int)))),(31,aJ (((k:Int))))],[(0,bC [Cl.ptr 0 0,Cl.ref 1002 (n+(zQ3 zQ5 [m.w,m.h]++[10]++(m.pixels.take k).flatMap pxTx).length)]),(29,Bx.row 37 5 (pxs (Im.pixels m))),(1002,Bx.row 5 1 (xs++zQf (toS (zQ3 zQ5 [m.w,m.h]++[10]++(m.pixels.take k).flatMap pxTx))))]⟩,fun k=>m.pixels.length - k⟩ fun k=>Ann.leaf)))))
theorem zVd (n:Nat) (xs:List DV) (m:Im):vcg Tryz.prog jZ9 ⟨40,fun _=>false,List.range 1,false⟩ (zQA Tryz.f27) (zXY n xs m) kn0 (zZc [aPz,(imD (m))] [bC [Cl.ptr 0 0,Cl.ref 1 n],Bx.row 5 1 xs]) (zZJ Tryz.prog ⟨40,fun _=>false,List.range 1,false⟩ Tryz.f27.results.toList ⟨AV.tup [],[bC [Cl.ptr 0 0,Cl.ref 1 (n+(imTx m).length)],Bx.row 5 1 (xs++zQf (toS (imTx m)))],false⟩) =
 (let yy2:=(((Im.pixels m).length:Nat):Int); let yy3:=([dJ m.w,dJ m.h]); let yy0:=(zQ4 (zQB (([DV.str (⟨#[115,111,108,105,100]⟩:ByteArray)]))++digW (ints ((yy3++(is (smpP (m.c:Px)))))))); let yy1:=(zQ4 (zQB (([DV.str (⟨#[105,109,97,103,101]⟩:ByteArray)]))++digW (ints (yy3)))); let zz0:=((Im.pixels m).length=(Im.pixels m).length); let zz1:=(dJ yy2=dJ yy2); let zz2:=(pxs (Im.pixels m)=pxs (Im.pixels m)); tU3 (((m.so=true→True∧tU8 ((Ans Tryz.prog 60 [RV.agg [dK m.c.a,dK m.c.b,dK m.c.c,dK m.c.al,dK m.c.f]] (RV.d (dS 5 (is (smpP (m.c:Px))))))∧(zZf 1 8 2 5 yy3 (is (smpP (m.c:Px))))∧(AnsG Tryz.prog 26 1 [aPz,AV.one (Cl.ref 1 1),AV.one (Cl.d (dS (2+5) (yy3++(is (smpP (m.c:Px))))))] [bC [Cl.ptr 0 0,Cl.ref 2 n],Bx.row 9 1 ([DV.str (⟨#[115,111,108,105,100]⟩:ByteArray)]),Bx.row 5 1 xs] ⟨AV.tup [],[bC [Cl.ptr 0 0,Cl.ref 1 (n+yy0.length)],Bx.row 5 1 (xs++zQf (toS yy0))],false⟩)∧(true=true)∧((True∧True)∧(((0=0)∧(n+yy0.length=n+(imTx m).length)∧True)∧(xs++zQf (toS yy0)=xs++zQf (toS (imTx m)))∧True))∧zQv ⟨AV.tup [],[bC [Cl.ptr 0 0,Cl.ref 1 (n+(imTx m).length)],Bx.row 5 1 (xs++zQf (toS (imTx m)))],false⟩))∧(m.so=false→tU7 ((AnsG Tryz.prog 26 1 [aPz,AV.one (Cl.ref 1 1),AV.one (Cl.d (dS 2 yy3))] [bC [Cl.ptr 0 0,Cl.ref 2 n],Bx.row 9 1 ([DV.str (⟨#[105,109,97,103,101]⟩:ByteArray)]),Bx.row 5 1 xs] ⟨AV.tup [],[bC [Cl.ptr 0 0,Cl.ref 1 (n+yy1.length)],Bx.row 5 1 (xs++zQf (toS yy1))],false⟩)∧True∧(AnsO Tryz.prog 61 [(imR (m))] 37 5 ((Im.pixels m).length) (pxs (Im.pixels m)))∧((Im.pixels m).length≤maxLen)∧True∧((∃ k:Nat,(k≤m.pixels.length)∧(((0=0)∧zz0∧zz1∧(dJ 0=dJ (k:Int))∧True)∧(((0=0)∧(n+yy1.length=n+(zQ3 zQ5 [m.w,m.h]++[10]++(m.pixels.take k).flatMap pxTx).length)∧True)∧zz2∧(xs++zQf (toS yy1)=xs++zQf (toS (zQ3 zQ5 [m.w,m.h]++[10]++(m.pixels.take k).flatMap pxTx)))∧True)))∧∀ k:Nat,let yy6:=(nAt (pxs (Im.pixels m)) ((k:Int).toNat*5+1+1+1+1)); let yy7:=(nAt (pxs (Im.pixels m)) ((k:Int).toNat*5+1+1+1)); let yy8:=(nAt (pxs (Im.pixels m)) ((k:Int).toNat*5+1+1)); let yy9:=(nAt (pxs (Im.pixels m)) ((k:Int).toNat*5+1)); let yy4:=(is (smpP (⟨(nAt (pxs (Im.pixels m)) ((k:Int).toNat*5)),yy9,yy8,yy7,yy6⟩:Px))); let yy5:=(zQ3 zQ5 [m.w,m.h]++[10]++(m.pixels.take k).flatMap pxTx); (k≤m.pixels.length)→True∧(((decide ((k:Int) < yy2))=true→(0≤(k:Int)∧(k:Int) < yy2)∧(((pxs (Im.pixels m))[(k:Int).toNat*5]?=some (dK (nAt (pxs (Im.pixels m)) ((k:Int).toNat*5))))∧((pxs (Im.pixels m))[(k:Int).toNat*5+1]?=some (dK yy9))∧((pxs (Im.pixels m))[(k:Int).toNat*5+1+1]?=some (dK yy8))∧((pxs (Im.pixels m))[(k:Int).toNat*5+1+1+1]?=some (dK yy7))∧((pxs (Im.pixels m))[(k:Int).toNat*5+1+1+1+1]?=some (dK yy6))∧True)∧tU4 ((Ans Tryz.prog 60 [RV.agg [dK (nAt (pxs (Im.pixels m)) ((k:Int).toNat*5)),dK yy9,dK yy8,dK yy7,dK yy6]] (RV.d (dS 5 yy4)))∧(AnsG Tryz.prog 26 1 [aPz,AV.one (Cl.nil),AV.one (Cl.d (dS 5 yy4))] [bC [Cl.ptr 0 0,Cl.ref 1 (n+yy5.length)],Bx.row 5 1 (xs++zQf (toS yy5))] ⟨AV.tup [],[bC [Cl.ptr 0 0,Cl.ref 1 ((n+yy5.length)+(zQ4 ([]++digW (ints (yy4)))).length)],Bx.row 5 1 ((xs++zQf (toS yy5))++zQf (toS (zQ4 ([]++digW (ints (yy4))))))],false⟩)∧tU2 (∃ k':Nat,(k'≤m.pixels.length)∧(m.pixels.length - k' < m.pixels.length - k)∧(((0=0)∧zz0∧zz1∧(dJ (wK ((k:Int)+(1:Int)))=dJ (k':Int))∧True)∧(((0=0)∧((n+yy5.length)+(zQ4 ([]++digW (ints (yy4)))).length=n+(zQ3 zQ5 [m.w,m.h]++[10]++(m.pixels.take k').flatMap pxTx).length)∧True)∧zz2∧((xs++zQf (toS yy5))++zQf (toS (zQ4 ([]++digW (ints (yy4)))))=xs++zQf (toS (zQ3 zQ5 [m.w,m.h]++[10]++(m.pixels.take k').flatMap pxTx)))∧True)))))∧((decide ((k:Int) < yy2))=false→((True∧True)∧(((0=0)∧(n+yy5.length=n+(imTx m).length)∧True)∧(xs++zQf (toS yy5)=xs++zQf (toS (imTx m)))∧True))∧zQv ⟨AV.tup [],[bC [Cl.ptr 0 0,Cl.ref 1 (n+(imTx m).length)],Bx.row 5 1 (xs++zQf (toS (imTx m)))],false⟩)))))))):=by kernel_rfl
theorem zJ6 (n:Nat) (xs:List DV) (m:Im) (hn:xs.length=n) (hb:n+(imTx m).length≤17592186044416) (hu:m.isU) (hp:m.pixels.length≤68719476736):AnsG Tryz.prog 27 1 [AV.one (Cl.ptr 0 0),(imD (m))] [Bx.cells [Cl.ptr 0 0,Cl.ref 1 n],Bx.row 5 1 xs] ⟨AV.tup [],[Bx.cells [Cl.ptr 0 0,Cl.ref 1 (n+(imTx m).length)],Bx.row 5 1 (xs++zQf (toS (imTx m)))],false⟩:=
 zQz (Γ:=jZ9) (zXY n xs m) zQC Tryz.func27 rfl (Nat.le_of_ble_eq_true rfl) rfl fun hwf hbx=>by
  refine Eq.mpr (zVd n xs m) ?_
  delta tU2 tU3 tU4 tU7 tU8 dJ dK wK dS aPz bC
  simp only [true_and,and_true,RV.d.injEq,RV.agg.injEq,RV.tup.injEq,DV.bool.injEq,DV.int.injEq,DV.sl.injEq,List.cons.injEq,forall_const,Bool.not_false,Bool.not_true,Bool.not_eq_true',Bool.not_eq_false',decide_eq_true_eq,decide_eq_false_iff_not,Int.toNat_natCast]
  clear hwf hbx
  have ls:(⟨#[115,111,108,105,100]⟩:ByteArray)=toS zQ9:=rfl
  have li:(⟨#[105,109,97,103,101]⟩:ByteArray)=toS zQ5:=rfl
  have r1:∀ w:Lb,[DV.str (toS w)]=strs [w]:=fun w=>rfl
  have r2:[DV.int .i64 m.w,DV.int .i64 m.h]=is [m.w,m.h]:=rfl
  have r3:is [m.w,m.h]++is (smpP m.c)=is ([m.w,m.h]++smpP m.c):=by simp [is]
  have hl5:∀ p:Px,(smpP p).length=5:=fun p=>rfl
  simp only [ls,li,r1,r2,r3,zQL,zQZ,List.nil_append]
  refine ⟨fun h=>?_,fun h=>?_⟩
  ·have e:=zGM m h
   have aL:=writer_line_used' n xs [zQ9] ([m.w,m.h]++smpP m.c) hn (by rw [e]; omega) (by simp [smpP]) (by simp)
   refine ⟨zJK m.c,⟨rfl,rfl,by decide,by decide⟩,aL,?_⟩
   rw [e]
   exact ⟨⟨rfl,rfl⟩,trivial⟩
  ·have e:imTx m=zQ3 zQ5 [m.w,m.h]++[10]++m.pixels.flatMap pxTx:=by unfold imTx; rw [h]; rfl
   have e0:zQ4 ([zQ5]++digW [m.w,m.h])=zQ3 zQ5 [m.w,m.h]++[10]:=zZN _ _ (by decide)
   have hle:=jUe m.pixels
   have hlen:(imTx m).length=(zQ3 zQ5 [m.w,m.h]++[10]).length+(m.pixels.flatMap pxTx).length:=by rw [e,List.length_append]
   generalize zQ3 zQ5 [m.w,m.h]++[10]=H at *
   have aL:=writer_line_used' n xs [zQ5] [m.w,m.h] hn (by rw [e0]; omega) (by simp) (by simp)
   rw [e0] at aL ⊢
   refine ⟨aL,zGW m hu,by unfold maxLen; omega,⟨0,Nat.zero_le _,rfl,by simp,by simp⟩,fun k hk=>⟨fun hlt=>?_,fun hge=>?_⟩⟩
   ·have h:k < m.pixels.length:=by omega
    have wi:IntKind.wrap .i64 ((k:Int)+1)=((k+1:Nat):Int):=by rw [IntWalk.i64_in _ ⟨by omega,by omega⟩]; omega
    obtain ⟨q0,q1,q2,q3,q4⟩:=zH0 h
    obtain ⟨a0,a1,a2,a3,a4⟩:=zZq h
    have ht:=jKv h
    have hk1:=hle (k+1)
    have hk0:=hle k
    simp only [a0,a1,a2,a3,a4]
    generalize m.pixels[k]=p at *
    have ep:=zGN p
    have hxk:(xs++zQf (toS (H++(m.pixels.take k).flatMap pxTx))).length=n+(H++(m.pixels.take k).flatMap pxTx).length:=by rw [List.length_append,zK9,zZe,hn]
    have hlk:(H++(m.pixels.take k).flatMap pxTx).length=H.length+((m.pixels.take k).flatMap pxTx).length:=List.length_append
    rw [ht,List.length_append] at hk1
    have aN:=writer_line_nil' _ _ (smpP p) hxk (by rw [ep]; omega) (by simp [smpP])
    refine ⟨⟨by omega,by omega⟩,⟨q0,q1,q2,q3,q4⟩,zJK p,aN,k+1,by omega,by omega,wi,?_,?_⟩
    ·rw [ep,ht,← List.append_assoc]; simp only [List.length_append]; omega
    ·rw [ep,ht,List.append_assoc,zZx,List.append_assoc]
   ·have:k=m.pixels.length:=by omega
    subst this
    rw [List.take_length,e]
    exact ⟨⟨rfl,rfl⟩,trivial⟩
def zYH (n:Nat) (xs:List DV) (o:Oq):Ann:=Ann.leaf
theorem zWT (n:Nat) (xs:List DV) (o:Oq):vcg Tryz.prog jZ9 ⟨72,fun _=>false,List.range 1,false⟩ (zQA Tryz.f28) (zYH n xs o) kn0 (zZc [aPz,AV.agg [cJ (o.kind),cJ (o.image),cJ (o.x),cJ (o.y),cJ (o.mask),cJ (o.mx),cJ (o.my),cK (o.opac),cJ (o.oper),cJ (o.mode),Cl.d (dQ o.iso),Cl.d (dQ o.kno)]] [bC [Cl.ptr 0 0,Cl.ref 1 n],Bx.row 5 1 xs]) (zZJ Tryz.prog ⟨72,fun _=>false,List.range 1,false⟩ Tryz.f28.results.toList ⟨AV.tup [],[bC [Cl.ptr 0 0,Cl.ref 1 (n+(opLn ⟨o.kind,o.image,o.x,o.y,o.mask,o.mx,o.my,o.opac,o.oper,o.mode,o.iso,o.kno⟩).length)],Bx.row 5 1 (xs++zQf (toS (opLn ⟨o.kind,o.image,o.x,o.y,o.mask,o.mx,o.my,o.opac,o.oper,o.mode,o.iso,o.kno⟩)))],false⟩) =
 (let yy0:=(digW (ints (([dJ o.image,dJ o.x,dJ o.y,dJ o.mask,dJ o.mx,dJ o.my,dJ (wK o.opac)])))); let yy1:=(digW (ints (([dJ o.mask,dJ o.mx,dJ o.my,dJ (wK o.opac)])))); let yy2:=(opLn ⟨o.kind,o.image,o.x,o.y,o.mask,o.mx,o.my,o.opac,o.oper,o.mode,o.iso,o.kno⟩); let yy3:=([DV.str (zQj o.oper),DV.str (zQc o.mode)]); let yy5:=(([DV.str (⟨#[100,114,97,119]⟩:ByteArray)])++(strs yy0)); let yy6:=(zQ4 (zQB (([DV.str (⟨#[112,111,112]⟩:ByteArray)]))++digW (ints (([]))))); let yy7:=(zQ4 (zQB ((yy5++yy3))++digW (ints (([]))))); let yy8:=([DV.str (⟨#[112,117,115,104]⟩:ByteArray)]); let yy4:=(zQ4 (zQB (((yy8++(strs yy1))++yy3))++digW (ints (([dJ (bitN o.iso),dJ (bitN o.kno)]))))); tU3 ((Ans Tryz.prog 55 [rJ (o.oper)] (RV.d (DV.str (zQj o.oper))))∧tU2 ((Ans Tryz.prog 56 [rJ (o.mode)] (RV.d (DV.str (zQc o.mode))))∧tU2 ((true=true)∧tU4 ((((o.kind==(1:Int))=true→tU8 (tU8 ((AnsG Tryz.prog 57 0 [AV.one (Cl.d (dS 7 ([dJ o.image,dJ o.x,dJ o.y,dJ o.mask,dJ o.mx,dJ o.my,dJ (wK o.opac)])))] [] ⟨AV.one (Cl.ref 0 (yy0.length)),[Bx.row 9 1 (strs yy0)],false⟩)∧tU4 ((zZf 1 16 1 (yy0.length) ([DV.str (⟨#[100,114,97,119]⟩:ByteArray)]) (strs yy0))∧True∧(zZf 1 16 (1+(yy0.length)) 2 yy5 yy3)∧(AnsG Tryz.prog 26 1 [aPz,AV.one (Cl.ref 1 ((1+(yy0.length))+2)),AV.one (Cl.d (dS 0 ([])))] [bC [Cl.ptr 0 0,Cl.ref 2 n],Bx.row 9 1 (yy5++yy3),Bx.row 5 1 xs] ⟨AV.tup [],[bC [Cl.ptr 0 0,Cl.ref 1 (n+yy7.length)],Bx.row 5 1 (xs++zQf (toS yy7))],false⟩)∧((True∧True)∧(((0=0)∧(n+yy7.length=n+yy2.length)∧True)∧(xs++zQf (toS yy7)=xs++zQf (toS yy2))∧True))∧zQv ⟨AV.tup [],[bC [Cl.ptr 0 0,Cl.ref 1 (n+yy2.length)],Bx.row 5 1 (xs++zQf (toS yy2))],false⟩))))∧((o.kind==(1:Int))=false→tU2 ((((o.kind==(2:Int))=true→tU2 (tU8 ((AnsG Tryz.prog 57 0 [AV.one (Cl.d (dS 4 ([dJ o.mask,dJ o.mx,dJ o.my,dJ (wK o.opac)])))] [] ⟨AV.one (Cl.ref 0 (yy1.length)),[Bx.row 9 1 (strs yy1)],false⟩)∧tU4 ((zZf 1 16 1 (yy1.length) yy8 (strs yy1))∧True∧(zZf 1 16 (1+(yy1.length)) 2 (yy8++(strs yy1)) yy3)∧tU2 ((Ans Tryz.prog 62 [RV.d (dQ o.iso)] (rJ ((bitN o.iso))))∧tU2 ((Ans Tryz.prog 62 [RV.d (dQ o.kno)] (rJ ((bitN o.kno))))∧True∧(AnsG Tryz.prog 26 1 [aPz,AV.one (Cl.ref 1 ((1+(yy1.length))+2)),AV.one (Cl.d (dS 2 ([dJ (bitN o.iso),dJ (bitN o.kno)])))] [bC [Cl.ptr 0 0,Cl.ref 2 n],Bx.row 9 1 ((yy8++(strs yy1))++yy3),Bx.row 5 1 xs] ⟨AV.tup [],[bC [Cl.ptr 0 0,Cl.ref 1 (n+yy4.length)],Bx.row 5 1 (xs++zQf (toS yy4))],false⟩)∧(true=true)∧((True∧True)∧(((0=0)∧(n+yy4.length=n+yy2.length)∧True)∧(xs++zQf (toS yy4)=xs++zQf (toS yy2))∧True))∧zQv ⟨AV.tup [],[bC [Cl.ptr 0 0,Cl.ref 1 (n+yy2.length)],Bx.row 5 1 (xs++zQf (toS yy2))],false⟩))))))∧((o.kind==(2:Int))=false→tU2 ((AnsG Tryz.prog 26 1 [aPz,AV.one (Cl.ref 1 1),AV.one (Cl.d (dS 0 ([])))] [bC [Cl.ptr 0 0,Cl.ref 2 n],Bx.row 9 1 ([DV.str (⟨#[112,111,112]⟩:ByteArray)]),Bx.row 5 1 xs] ⟨AV.tup [],[bC [Cl.ptr 0 0,Cl.ref 1 (n+yy6.length)],Bx.row 5 1 (xs++zQf (toS yy6))],false⟩)∧((True∧True)∧(((0=0)∧(n+yy6.length=n+yy2.length)∧True)∧(xs++zQf (toS yy6)=xs++zQf (toS yy2))∧True))∧zQv ⟨AV.tup [],[bC [Cl.ptr 0 0,Cl.ref 1 (n+yy2.length)],Bx.row 5 1 (xs++zQf (toS yy2))],false⟩))))))))))):=by kernel_rfl
theorem zWa (n:Nat) (xs:List DV) (o:Oq) (hn:xs.length=n) (hb:n+(opLn o).length≤17592186044416):AnsG Tryz.prog 28 1 [AV.one (Cl.ptr 0 0),AV.agg [Cl.d (DV.int .i64 o.kind),Cl.d (DV.int .i64 o.image),Cl.d (DV.int .i64 o.x),Cl.d (DV.int .i64 o.y),Cl.d (DV.int .i64 o.mask),Cl.d (DV.int .i64 o.mx),Cl.d (DV.int .i64 o.my),Cl.d (DV.int .u16 o.opac),Cl.d (DV.int .i64 o.oper),Cl.d (DV.int .i64 o.mode),Cl.d (DV.bool o.iso),Cl.d (DV.bool o.kno)]] [Bx.cells [Cl.ptr 0 0,Cl.ref 1 n],Bx.row 5 1 xs] ⟨AV.tup [],[Bx.cells [Cl.ptr 0 0,Cl.ref 1 (n+(opLn ⟨o.kind,o.image,o.x,o.y,o.mask,o.mx,o.my,o.opac,o.oper,o.mode,o.iso,o.kno⟩).length)],Bx.row 5 1 (xs++zQf (toS (opLn ⟨o.kind,o.image,o.x,o.y,o.mask,o.mx,o.my,o.opac,o.oper,o.mode,o.iso,o.kno⟩)))],false⟩:=
 zQz (Γ:=jZ9) (zYH n xs o) zQC Tryz.func28 rfl (Nat.le_of_ble_eq_true rfl) rfl fun hwf hbx=>by
  refine Eq.mpr (zWT n xs o) ?_
  delta tU2 tU3 tU4 tU8 dJ dQ wK dS rJ aPz bC
  simp only [true_and,and_true,RV.d.injEq,RV.agg.injEq,RV.tup.injEq,DV.bool.injEq,DV.int.injEq,DV.sl.injEq,List.cons.injEq,forall_const,Bool.not_false,Bool.not_true,Bool.not_eq_true',Bool.not_eq_false',decide_eq_true_eq,decide_eq_false_iff_not,Int.toNat_natCast]
  have hmn6:IntKind.min .u16=0:=by decide
  have hmx6:IntKind.max .u16=65535:=by decide
  simp only [AV.wfL,AV.wf,Cl.wfs,DV.wf,hmn6,hmx6] at hwf
  have hop:0≤o.opac∧o.opac≤65535:=by omega
  have wo:IntKind.wrap .i64 o.opac=o.opac:=IntWalk.i64_in _ ⟨by omega,by omega⟩
  clear hwf hbx
  have aO:=zZ4 o.oper
  have aM:=zVx o.mode
  have aI:=zWi o.iso
  have aK:=zWi o.kno
  have e1:zQj o.oper=toS (ofS (zQj o.oper)):=(zVI _).symm
  have e2:zQc o.mode=toS (ofS (zQc o.mode)):=(zVI _).symm
  have lt:(⟨#[100,114,97,119]⟩:ByteArray)=toS zZ9:=rfl
  have lp:(⟨#[112,117,115,104]⟩:ByteArray)=toS zXi:=rfl
  have lq:(⟨#[112,111,112]⟩:ByteArray)=toS sPop:=rfl
  have r1:∀ w:Lb,[DV.str (toS w)]=strs [w]:=fun w=>rfl
  have r2:[DV.str (zQj o.oper),DV.str (zQc o.mode)]=strs [ofS (zQj o.oper),ofS (zQc o.mode)]:=by rw [show ∀ a b:Lb,strs [a,b]=[DV.str (toS a),DV.str (toS b)] from fun a b=>rfl,zVI,zVI]
  have i7:[DV.int .i64 o.image,DV.int .i64 o.x,DV.int .i64 o.y,DV.int .i64 o.mask,DV.int .i64 o.mx,DV.int .i64 o.my,DV.int .i64 (IntKind.wrap .i64 o.opac)]=is [o.image,o.x,o.y,o.mask,o.mx,o.my,o.opac]:=by rw [wo]; rfl
  have i4:[DV.int .i64 o.mask,DV.int .i64 o.mx,DV.int .i64 o.my,DV.int .i64 (IntKind.wrap .i64 o.opac)]=is [o.mask,o.mx,o.my,o.opac]:=by rw [wo]; rfl
  have i2:[DV.int .i64 (bitN o.iso),DV.int .i64 (bitN o.kno)]=is [bitN o.iso,bitN o.kno]:=rfl
  have i0:ints []=[]:=rfl
  have d0:digW []=[]:=rfl
  have k1:(o.kind==1)=decide (o.kind=1):=by rw [Bool.eq_iff_iff]; simp
  have k2:(o.kind==2)=decide (o.kind=2):=by rw [Bool.eq_iff_iff]; simp
  have dl:∀ l:List Int,(digW l).length=l.length:=fun l=>by simp [digW]
  simp only [lt,lp,lq,r1,r2,↓i7,↓i4,↓i2,zQZ,← jYw,zQL,i0,d0,List.append_nil,k1,k2,decide_eq_true_eq,decide_eq_false_iff_not,Oq.eta_]
  refine ⟨aO,aM,fun h=>?_,fun h=>⟨fun h2=>?_,fun h2=>?_⟩⟩
  ·have e:=zH7 o h
   have aL:=writer_line_used' n xs ([zZ9]++digW [o.image,o.x,o.y,o.mask,o.mx,o.my,o.opac]++[ofS (zQj o.oper),ofS (zQc o.mode)]) [] hn (by rw [d0,List.append_nil,e]; omega) (by simp) (by simp [dl])
   rw [d0,List.append_nil] at aL
   rw [show ([zZ9]++digW [o.image,o.x,o.y,o.mask,o.mx,o.my,o.opac]++[ofS (zQj o.oper),ofS (zQc o.mode)]).length=1+(digW [o.image,o.x,o.y,o.mask,o.mx,o.my,o.opac]).length+2 by simp [dl]] at aL
   refine ⟨text_digits' [o.image,o.x,o.y,o.mask,o.mx,o.my,o.opac] (by simp),⟨rfl,by rw [zXe,Nat.mul_one],by simp [dl,maxLen],by simp [dl]⟩,⟨by rw [zXe]; simp; omega,rfl,by simp [dl,maxLen],by simp [dl]⟩,aL,?_⟩
   rw [e]
   exact ⟨⟨rfl,rfl⟩,trivial⟩
  ·have e:=zH6 o h2
   have aL:=writer_line_used' n xs ([zXi]++digW [o.mask,o.mx,o.my,o.opac]++[ofS (zQj o.oper),ofS (zQc o.mode)]) [bitN o.iso,bitN o.kno] hn (by rw [e]; omega) (by simp) (by simp [dl])
   rw [show ([zXi]++digW [o.mask,o.mx,o.my,o.opac]++[ofS (zQj o.oper),ofS (zQc o.mode)]).length=1+(digW [o.mask,o.mx,o.my,o.opac]).length+2 by simp [dl]] at aL
   refine ⟨text_digits' [o.mask,o.mx,o.my,o.opac] (by simp),⟨rfl,by rw [zXe,Nat.mul_one],by simp [dl,maxLen],by simp [dl]⟩,⟨by rw [zXe]; simp; omega,rfl,by simp [dl,maxLen],by simp [dl]⟩,aI,aK,aL,?_⟩
   rw [e]
   exact ⟨⟨rfl,rfl⟩,trivial⟩
  ·have e:=jZ0 o h h2
   have aL:=writer_line_used' n xs [sPop] [] hn (by rw [d0,List.append_nil,e]; omega) (by simp) (by simp)
   rw [d0,List.append_nil] at aL
   refine ⟨aL,?_⟩
   rw [e]
   exact ⟨⟨rfl,rfl⟩,trivial⟩
end Go.Proofs.YtheidkkebdhmkaaGreatDoor
namespace Go.Proofs.YtheidkkebdhmkaaGreatDoor
open Go.RowKit Go.Lib
set_option linter.unusedVariables false
set_option linter.unusedSimpArgs false
theorem jXF (l:Lb):strD (zQf (toS l))=toS l:=by
 unfold strD zQf toS
 simp only [List.map_map]
 congr 2
 conv=>rhs; rw [← List.map_id l]
 refine List.map_congr_left fun b _=>?_
 simp [jJp]
theorem jJn {w:World} {V:Nat→Prop}:∀ {l:Lb} {vs:List Value},zZk w V (zQf (toS l)) vs→∀ (j:Nat) (x:UInt8),l[j]?=some x→vs[j]?=some (Value.int .u8 (x.toNat:Int))
 | [],_,_,j,x,h=>by simp at h
 | b::l,[],h,_,_,_=>h.elim
 | b::l,v::vs,h,j,x,hj=>by
  have h1:RepD w V (.int .u8 (b.toNat:Int)) v:=h.1
  have h2:zZk w V (zQf (toS l)) vs:=h.2
  cases j with
  | zero=>
   simp only [List.getElem?_cons_zero,Option.some.injEq] at hj ⊢
   subst hj
   simp only [RepD] at h1
   exact h1.1
  | succ j=>exact jJn h2 j x (by simpa using hj)
set_option maxHeartbeats 1000000 in
set_option maxRecDepth 100000 in
theorem jXE (g g2 cap:Nat) (l:Lb) (cur:Array Value) (w:World) (p:Value) (T:Nat) (h0:l≠[]) (h63:l.length≤9223372036854775807)
  (hg:w.heap[g]?=some (.cells #[p,.slice (some ⟨g2,0,none⟩) l.length cap] T (0,0))) (hr:zKN w g2 cur 5) (hn:l.length≤cap) (hcs:cur.size=cap*1) (hcell:∀ (j:Nat) (x:UInt8),l[j]?=some x→cur[j]?=some (Value.int .u8 (x.toNat:Int))) :
  Calls Tryz.prog 29 #[.pointer (some ⟨g,0,none⟩)] w fun e w'=>e=.returned (.string (toS l))∧w'=w.drew.freeze ⟨g2,0,none⟩ l.length:=by
 have hl0:l.length≠0:=by simpa using h0
 have c1:w.drew.cell? ⟨g,1,none⟩=some (.slice (some ⟨g2,0,none⟩) l.length cap):=by
  have:w.drew.heap[g]?=some (.cells #[p,.slice (some ⟨g2,0,none⟩) l.length cap] T (0,0)):=hg
  rw [Lib.cell_of_heap this]; rfl
 have hSD:(Builtin.unsafeSliceData_ #[80] 122 #[.slice (some ⟨g2,0,none⟩) l.length cap]).run Tryz.prog w.drew=.ok (.pointer (some ⟨g2,0,none⟩)) w.drew:=
  Lib.run_unsafeSliceData_row _ _ _ _ _ _ (by omega)
 have hUS:(Builtin.unsafeString_ #[122,3] 9 #[.pointer (some ⟨g2,0,none⟩),.int .i64 l.length]).run Tryz.prog w.drew=.ok (.string (toS l)) (w.drew.freeze ⟨g2,0,none⟩ l.length):=by
  obtain ⟨m,hm,_⟩:=hr
  have hm':w.drew.heap[g2]?=some (.cells cur 5 m):=hm
  refine Lib.run_unsafeString_row w.drew 122 3 9 5 Tryz.underlying122 (by kernel_rfl) g2 cur.size (by simp [World.shape?,hm']) l h0 (by omega) h63 fun j x hj=>?_
  rw [zZG,Nat.zero_add,cell_of_row w.drew g2 j cur _ m hm']
  exact hcell j x hj
 have mixed:=zQC
 go_enter Tryz.func29,Tryz.ntmps29
 go_wp2
 go_region_o
 all_goals (go_wp2; go_ret; exact ⟨rfl,rfl⟩)
theorem zHi (l:Lb) (h0:l≠[]) (h63:l.length≤9223372036854775807):AnsG Tryz.prog 29 0 [AV.one (Cl.ptr 0 0)] [Bx.cells [Cl.ptr 0 0,Cl.ref 1 l.length],Bx.row 5 1 (zQf (toS l))] ⟨AV.one (Cl.d (DV.str (toS l))),[],false⟩:=by
 intro w S ι vs hG hh
 obtain ⟨vs⟩:=vs
 have ha:=hh.args
 match vs,ha with
 | [v],ha=>
  simp only [RepAVs,zQs,zQM,and_true] at ha
  obtain ⟨_,g,c,hι,rfl⟩:=ha
  have hb0:=hh.bx 0
  have hb1:=hh.bx 1
  have e0:zQO [Bx.cells [Cl.ptr 0 0,Cl.ref 1 l.length],Bx.row 5 1 (zQf (toS l))] 0=Bx.cells [Cl.ptr 0 0,Cl.ref 1 l.length]:=rfl
  have e1:zQO [Bx.cells [Cl.ptr 0 0,Cl.ref 1 l.length],Bx.row 5 1 (zQf (toS l))] 1=Bx.row 5 1 (zQf (toS l)):=rfl
  rw [e0] at hb0
  rw [e1] at hb1
  obtain ⟨g',c',cur,T,i1,i2,_,i3⟩:=hb0
  rw [hι] at i1
  simp only [Option.some.injEq,Prod.mk.injEq] at i1
  obtain ⟨rfl,rfl⟩:=i1
  obtain ⟨cur⟩:=cur
  match cur,i3 with
  | [a,b],i3=>
   simp only [zQW,zQM,and_true] at i3
   obtain ⟨⟨_,g3,c3,j1,rfl⟩,_,hb⟩:=i3
   rcases hb1 with ⟨_,hb1⟩ | ⟨g2,cap,cur2,k1,k2,k3,k4,k5⟩
   ·exfalso
    cases l with
    | nil=>exact h0 rfl
    | cons b l=>simp [zQf,toS] at hb1
   ·rcases hb with ⟨n1,_⟩ | ⟨g4,cap4,n1,rfl,n2⟩
    ·rw [k1] at n1; cases n1
    ·rw [k1] at n1
     simp only [Option.some.injEq,Prod.mk.injEq] at n1
     obtain ⟨rfl,rfl⟩:=n1
     have hg2:g2 < w.heap.size:=by
      obtain ⟨m,hm,_⟩:=k2
      exact (Array.getElem?_eq_some_iff.1 hm).1
     refine (jXE g g2 cap l cur2 w _ T h0 h63 i2 k2 n2 k4 fun j x hj=>?_).mono ?_
     ·have:=jJn k5 j x hj
      rw [List.getElem?_take] at this
      split at this
      ·simpa using this
      ·cases this
     ·rintro e w' ⟨rfl,rfl⟩
      refine ⟨_,ι,rfl,?_,fun b=>trivial,fun b g c hl=>(by cases hl),fun b b' g c c' hl=>(by cases hl),fun b hb=>absurd hb (by omega),?_⟩
      ·simp only [zQs,zQM,RepD]
       exact ⟨trivial,by rw [zZe]; unfold maxLen; omega⟩
      ·have hz:¬ l.length=0:=by simpa using h0
       simp only [World.freeze,if_neg hz]
       refine ⟨rfl,rfl,rfl,?_,fun g' hg' hl=>?_⟩
       ·show _≤(Array.modify _ _ _).size
        rw [Array.size_modify]
        exact Nat.le_refl _
       ·have hne:g'≠g2:=fun e=>hl ⟨1,cap,rfl,by rw [e]; exact k1⟩
        show (w.heap.modify g2 _)[g']?=_
        simp [Array.getElem?_modify,Ne.symm hne]
end Go.Proofs.YtheidkkebdhmkaaGreatDoor
namespace Go.Proofs.YtheidkkebdhmkaaGreatDoor
open Go.RowKit
set_option linter.unusedVariables false
set_option linter.unusedSimpArgs false
attribute [local irreducible] Ans AnsO AnsG AnsN AnsI
set_option maxHeartbeats 4000000
set_option maxRecDepth 4000
open Go.Lib
def hd1 (s:Scr):Lb:=zQ3 zYG [s.bits]++[10]
def hd2 (s:Scr):Lb:=hd1 s++(zQ3 zZL [s.c.a,s.c.b,s.c.c,s.c.d]++[10])
theorem hd3 (s:Scr):hdTx s=hd2 s++(zQ3 zXo [s.tw,s.th]++[10]):=by unfold hdTx hd2 hd1; simp only [List.append_assoc]
theorem rowB {a b c:Lb} (h:c=a++b):zQf (toS a)++zQf (toS b)=zQf (toS c):=by rw [h,zZx]
theorem lenB (l:Lb):(zQf (toS l)).length=l.length:=by rw [zK9,zZe]
theorem zYr (H w:Lb) (l:List Int) (r:Lb) (hr:zQ4 ([w]++digW l)=r) (hb:(H++r).length≤17592186044416) (hl:l.length≤1099511627776) :
  AnsG Tryz.prog 26 1 [AV.one (Cl.ptr 0 0),AV.one (Cl.ref 1 1),AV.one (Cl.d (DV.sl l.length (is l)))] [Bx.cells [Cl.ptr 0 0,Cl.ref 2 H.length],Bx.row 9 1 (strs [w]),Bx.row 5 1 (zQf (toS H))]
   ⟨AV.tup [],[Bx.cells [Cl.ptr 0 0,Cl.ref 1 (H.length+r.length)],Bx.row 5 1 (zQf (toS H)++zQf (toS r))],false⟩:=by
 have:=writer_line_used' H.length (zQf (toS H)) [w] l (lenB H) (by rw [hr,← List.length_append]; exact hb) hl (by simp)
 rw [hr] at this
 exact this
def jGc:Gam where
 pure:=fun f xs=>
  if f=24 then (match xs with | [.agg [.int _ bits,.int _ cx0,.int _ cy0,.int _ cx1,.int _ cy1,.int _ tw,.int _ th,.sl on oxs,.sl mn mxs,.sl pn pxs]]=>some (RV.d (dQ (zXc (⟨bits,⟨cx0,cy0,cx1,cy1⟩,tw,th,ints oxs,zZ6 mxs,zZb pxs⟩:Scr)))) | _=>none) else
  if f=25 then (match xs with | [.agg [.int _ okind,.int _ oimage,.int _ ox,.int _ oy,.int _ omask,.int _ omx,.int _ omy,.int _ oopac,.int _ ooper,.int _ omode,.bool oiso,.bool okno]]=>some (RV.d (dQ (prtO (⟨okind,oimage,ox,oy,omask,omx,omy,oopac,ooper,omode,oiso,okno⟩:Oq)))) | _=>none) else
  none
 modes:=fun f=>
  if f=29 then some ([false],0,0) else
  if f=26 then some ([false,false,true],1,1) else
  if f=27 then some ([false,true],1,1) else
  if f=28 then some ([false,true],1,1) else
  none
 proc:=fun f xs bs=>
  if f=29 then (match xs,bs with | [AV.one (Cl.ptr 0 0)],[Bx.cells [Cl.ptr 0 0,Cl.ref 1 n],Bx.row _ _ xs]=>some ⟨AV.one (Cl.d (DV.str (strD xs))),[],false⟩ | _,_=>none) else
  if f=26 then (match xs,bs with | [AV.one (Cl.ptr 0 0),AV.one (Cl.ref 1 wn),AV.one (Cl.d (DV.sl kn kxs))],[Bx.cells [Cl.ptr 0 0,Cl.ref 2 n],Bx.row _ _ wxs,Bx.row _ _ xs]=>some ⟨AV.tup [],[bC [Cl.ptr 0 0,Cl.ref 1 (n+(zQ4 (zQB (wxs)++digW (ints (kxs)))).length)],Bx.row 5 1 (xs++zQf (toS (zQ4 (zQB (wxs)++digW (ints (kxs))))))],false⟩ | [AV.one (Cl.ptr 0 0),AV.one (Cl.nil),AV.one (Cl.d (DV.sl kn kxs))],[Bx.cells [Cl.ptr 0 0,Cl.ref 1 n],Bx.row _ _ xs]=>some ⟨AV.tup [],[bC [Cl.ptr 0 0,Cl.ref 1 (n+(zQ4 ([]++digW (ints (kxs)))).length)],Bx.row 5 1 (xs++zQf (toS (zQ4 ([]++digW (ints (kxs))))))],false⟩ | [AV.one (Cl.ptr 0 0),AV.one (Cl.ref 1 wn),AV.one (Cl.d (DV.sl kn kxs))],[Bx.cells [Cl.lit (Value.pointer none),Cl.nil],Bx.row _ _ wxs]=>some ⟨AV.tup [],[bC [Cl.ptr 0 0,Cl.ref 1 (0+(zQ4 (zQB (wxs)++digW (ints (kxs)))).length)],Bx.row 5 1 ([]++zQf (toS (zQ4 (zQB (wxs)++digW (ints (kxs))))))],false⟩ | _,_=>none) else
  if f=27 then (match xs,bs with | [AV.one (Cl.ptr 0 0),AV.agg [Cl.d (DV.int _ w),Cl.d (DV.int _ h),Cl.d (DV.bool so),Cl.d (DV.int _ c0),Cl.d (DV.int _ c1),Cl.d (DV.int _ c2),Cl.d (DV.int _ ca),Cl.d (DV.int _ cf),Cl.d (DV.int _ w0),Cl.d (DV.int _ h0),Cl.d (DV.int _ s0),Cl.d (DV.sl n0 xs0),Cl.d (DV.int _ w1),Cl.d (DV.int _ h1),Cl.d (DV.int _ s1),Cl.d (DV.sl n1 xs1),Cl.d (DV.int _ w2),Cl.d (DV.int _ h2),Cl.d (DV.int _ s2),Cl.d (DV.sl n2 xs2),Cl.d (DV.int _ w3),Cl.d (DV.int _ h3),Cl.d (DV.int _ s3),Cl.d (DV.sl n3 xs3),Cl.d (DV.int _ w4),Cl.d (DV.int _ h4),Cl.d (DV.int _ s4),Cl.d (DV.sl n4 xs4)]],[Bx.cells [Cl.ptr 0 0,Cl.ref 1 n],Bx.row _ _ xs]=>some ⟨AV.tup [],[bC [Cl.ptr 0 0,Cl.ref 1 (n+(imTx ⟨w,h,so,⟨c0,c1,c2,ca,cf⟩,⟨w0,h0,s0,n0,xs0⟩,⟨w1,h1,s1,n1,xs1⟩,⟨w2,h2,s2,n2,xs2⟩,⟨w3,h3,s3,n3,xs3⟩,⟨w4,h4,s4,n4,xs4⟩⟩).length)],Bx.row 5 1 (xs++zQf (toS (imTx ⟨w,h,so,⟨c0,c1,c2,ca,cf⟩,⟨w0,h0,s0,n0,xs0⟩,⟨w1,h1,s1,n1,xs1⟩,⟨w2,h2,s2,n2,xs2⟩,⟨w3,h3,s3,n3,xs3⟩,⟨w4,h4,s4,n4,xs4⟩⟩)))],false⟩ | _,_=>none) else
  if f=28 then (match xs,bs with | [AV.one (Cl.ptr 0 0),AV.agg [Cl.d (DV.int _ okind),Cl.d (DV.int _ oimage),Cl.d (DV.int _ ox),Cl.d (DV.int _ oy),Cl.d (DV.int _ omask),Cl.d (DV.int _ omx),Cl.d (DV.int _ omy),Cl.d (DV.int _ oopac),Cl.d (DV.int _ ooper),Cl.d (DV.int _ omode),Cl.d (DV.bool oiso),Cl.d (DV.bool okno)]],[Bx.cells [Cl.ptr 0 0,Cl.ref 1 n],Bx.row _ _ xs]=>some ⟨AV.tup [],[bC [Cl.ptr 0 0,Cl.ref 1 (n+(opLn ⟨okind,oimage,ox,oy,omask,omx,omy,oopac,ooper,omode,oiso,okno⟩).length)],Bx.row 5 1 (xs++zQf (toS (opLn ⟨okind,oimage,ox,oy,omask,omx,omy,oopac,ooper,omode,oiso,okno⟩)))],false⟩ | _,_=>none) else
  none
 iter:=fun f cs=>
  none
def zKj (s:Scr):Ann:=let zz0:=(dS s.ops.length (ops s.ops)); let zz1:=(Cl.d zz0); let zz2:=(dS s.ims.length (ims s.ims)); let zz3:=(1,bC [cJ (s.bits),cJ (s.c.a),cJ (s.c.b),cJ (s.c.c),cJ (s.c.d),cJ (s.tw),cJ (s.th),Cl.d (dS s.ord.length (is s.ord)),Cl.d zz2,Cl.d zz0]); let zz4:=[(1,AV.one (Cl.ptr 1 0)),(6,AV.one (Cl.ptr 26 0))]; (Ann.seq Ann.leaf (Ann.seq Ann.leaf (Ann.seq (Ann.seq Ann.leaf (Ann.loop ⟨Nat,fun k=>k≤s.ops.length∧(s.ops.take k).all prtO=true,fun k=>⟨[(1,AV.one (Cl.ptr 1 0)),(15,AV.one zz1),(16,aJ (((s.ops.length:Int)))),(17,aJ (((k:Int))))],[zz3]⟩,fun k=>s.ops.length - k⟩ fun k=>Ann.leaf)) (Ann.seq Ann.leaf (Ann.cut ⟨Nat,fun z1=>z1=0,fun z1=>⟨zz4,[zz3,(26,bC [Cl.ptr 26 0,Cl.ref 9101 ((hd1 s).length)]),(9101,Bx.row 5 1 (zQf (toS (hd1 s))))]⟩,fun z1=>0⟩ Ann.leaf fun z1=>(Ann.cut ⟨Nat,fun z2=>z2=0,fun z2=>⟨zz4,[zz3,(26,bC [Cl.ptr 26 0,Cl.ref 9102 ((hd2 s).length)]),(9102,Bx.row 5 1 (zQf (toS (hd2 s))))]⟩,fun z2=>0⟩ Ann.leaf fun z2=>(Ann.cut ⟨Nat,fun z3=>z3=0,fun z3=>⟨zz4,[zz3,(26,bC [Cl.ptr 26 0,Cl.ref 9103 ((hdTx s).length)]),(9103,Bx.row 5 1 (zQf (toS (hdTx s))))]⟩,fun z3=>0⟩ Ann.leaf fun z3=>(Ann.cut ⟨Nat,fun z4=>z4=0,fun z4=>⟨zz4,[zz3,(26,bC [Cl.ptr 26 0,Cl.ref 9104 ((fmtA s 0).length)]),(9104,Bx.row 5 1 (zQf (toS (fmtA s 0))))]⟩,fun z4=>0⟩ Ann.leaf fun z4=>(Ann.seq (Ann.seq Ann.leaf (Ann.loop ⟨Nat,fun i=>i≤s.ims.length,fun i=>⟨[(1,AV.one (Cl.ptr 1 0)),(6,AV.one (Cl.ptr 26 0)),(67,AV.one (Cl.d zz2)),(68,aJ (((s.ims.length:Int)))),(69,aJ (((i:Int))))],[zz3,(26,bC [Cl.ptr 26 0,Cl.ref 9002 ((fmtA s i).length)]),(9002,Bx.row 5 1 (zQf (toS (fmtA s i))))]⟩,fun i=>s.ims.length - i⟩ fun i=>Ann.leaf)) (Ann.seq (Ann.seq Ann.leaf (Ann.loop ⟨Nat,fun j=>j≤s.ops.length,fun j=>⟨[(6,AV.one (Cl.ptr 26 0)),(78,AV.one zz1),(79,aJ (((s.ops.length:Int)))),(80,aJ (((j:Int))))],[(26,bC [Cl.ptr 26 0,Cl.ref 9002 ((fmtC s j).length)]),(9002,Bx.row 5 1 (zQf (toS (fmtC s j))))]⟩,fun j=>s.ops.length - j⟩ fun j=>Ann.leaf)) Ann.leaf))))))))))
theorem zHq (s:Scr):vcg Tryz.prog jGc 92 (zQA Tryz.f11) (zKj s) kn0 (zQ0 [RV.agg [dJ s.bits,dJ s.c.a,dJ s.c.b,dJ s.c.c,dJ s.c.d,dJ s.tw,dJ s.th,dS s.ord.length (is s.ord),dS s.ims.length (ims s.ims),dS s.ops.length (ops s.ops)]]) (post Tryz.prog Tryz.f11.results.toList (·=RV.tup [RV.d (DV.str (toS (fmtR s).1)),rJ (((fmtR s).2))])) =
 (let yy30:=(s.ops.length:Int); let yy31:=(s.ims.length:Int); let yy0:=(zQ4 (zQB (([DV.str (⟨#[99,97,110,118,97,115]⟩:ByteArray)]))++digW (ints (([dJ s.c.a,dJ s.c.b,dJ s.c.c,dJ s.c.d]))))); let yy1:=(zQ4 (zQB (([DV.str (⟨#[116,105,108,101,115]⟩:ByteArray)]))++digW (ints (([dJ s.tw,dJ s.th]))))); let yy2:=(zQ4 (zQB (([DV.str (⟨#[98,105,116,115]⟩:ByteArray)]))++digW (ints (([dJ s.bits]))))); let yy3:=(zQ4 (zQB (([DV.str (⟨#[111,114,100,101,114]⟩:ByteArray)]))++digW (ints ((is s.ord))))); let yy4:=(zXc (⟨s.bits,s.c,s.tw,s.th,ints (is s.ord),zZ6 (ims s.ims),zZb (ops s.ops)⟩:Scr)); let zz0:=[dJ s.bits,dJ s.c.a,dJ s.c.b,dJ s.c.c,dJ s.c.d,dJ s.tw,dJ s.th,dS s.ord.length (is s.ord),dS s.ims.length (ims s.ims),dS s.ops.length (ops s.ops)]; let zz1:=[RV.d (DV.str (⟨#[]⟩:ByteArray)),rJ (19)]; let zz2:=[RV.d (DV.str (toS (fmtR s).1)),rJ (((fmtR s).2))]; let zz3:=fun (k:Nat)=>(k≤s.ops.length∧(s.ops.take k).all prtO=true); let zz4:=(dS s.ops.length (ops s.ops)=dS s.ops.length (ops s.ops)); let zz5:=(dJ yy30=dJ yy30); let zz6:=(zz0=zz0); let zz7:=(zz6∧True); let zz8:=(dS s.ims.length (ims s.ims)=dS s.ims.length (ims s.ims)); let zz9:=(dJ yy31=dJ yy31); let zz10:=fun (j:Nat)=>[bC [Cl.ptr 0 0,Cl.ref 1 ((fmtC s j).length)],Bx.row 5 1 (zQf (toS (fmtC s j)))]; let zz11:=fun (j:Nat)=>(DV.str (strD (zQf (toS (fmtC s j))))); tU4 ((Ans Tryz.prog 24 [RV.agg zz0] (RV.d (dQ yy4)))∧True∧(((!yy4)=true→tU2 (RV.tup zz1=RV.tup zz2))∧((!yy4)=false→tU4 (((∃ k:Nat,(zz3 k)∧(((0=0)∧zz4∧zz5∧(dJ 0=dJ (k:Int))∧True)∧zz7))∧∀ k:Nat,let yy32:=(nAt (ops s.ops) ((k:Int).toNat*12+1+1+1+1+1+1+1+1+1)); let yy33:=(nAt (ops s.ops) ((k:Int).toNat*12+1+1+1+1+1+1+1+1)); let yy34:=(nAt (ops s.ops) ((k:Int).toNat*12+1+1+1+1+1+1+1)); let yy35:=(nAt (ops s.ops) ((k:Int).toNat*12+1+1+1+1+1+1)); let yy36:=(nAt (ops s.ops) ((k:Int).toNat*12+1+1+1+1+1)); let yy37:=(nAt (ops s.ops) ((k:Int).toNat*12+1+1+1+1)); let yy38:=(nAt (ops s.ops) ((k:Int).toNat*12+1+1+1)); let yy6:=(bAt (ops s.ops) ((k:Int).toNat*12+1+1+1+1+1+1+1+1+1+1+1)); let yy7:=(bAt (ops s.ops) ((k:Int).toNat*12+1+1+1+1+1+1+1+1+1+1)); let yy5:=(prtO (⟨(nAt (ops s.ops) ((k:Int).toNat*12)),(nAt (ops s.ops) ((k:Int).toNat*12+1)),(nAt (ops s.ops) ((k:Int).toNat*12+1+1)),yy38,yy37,yy36,yy35,yy34,yy33,yy32,yy7,yy6⟩:Oq)); (zz3 k)→True∧(((decide ((k:Int) < yy30))=true→(0≤(k:Int)∧(k:Int) < yy30∧(k:Int).toNat*12 < (ops s.ops).length)∧(((ops s.ops)[(k:Int).toNat*12]?=some (dJ (nAt (ops s.ops) ((k:Int).toNat*12))))∧((ops s.ops)[(k:Int).toNat*12+1]?=some (dJ (nAt (ops s.ops) ((k:Int).toNat*12+1))))∧((ops s.ops)[(k:Int).toNat*12+1+1]?=some (dJ (nAt (ops s.ops) ((k:Int).toNat*12+1+1))))∧((ops s.ops)[(k:Int).toNat*12+1+1+1]?=some (dJ yy38))∧((ops s.ops)[(k:Int).toNat*12+1+1+1+1]?=some (dJ yy37))∧((ops s.ops)[(k:Int).toNat*12+1+1+1+1+1]?=some (dJ yy36))∧((ops s.ops)[(k:Int).toNat*12+1+1+1+1+1+1]?=some (dJ yy35))∧((ops s.ops)[(k:Int).toNat*12+1+1+1+1+1+1+1]?=some (dK yy34))∧((ops s.ops)[(k:Int).toNat*12+1+1+1+1+1+1+1+1]?=some (dJ yy33))∧((ops s.ops)[(k:Int).toNat*12+1+1+1+1+1+1+1+1+1]?=some (dJ yy32))∧((ops s.ops)[(k:Int).toNat*12+1+1+1+1+1+1+1+1+1+1]?=some (dQ yy7))∧((ops s.ops)[(k:Int).toNat*12+1+1+1+1+1+1+1+1+1+1+1]?=some (dQ yy6))∧True)∧tU3 ((Ans Tryz.prog 25 [RV.agg [dJ (nAt (ops s.ops) ((k:Int).toNat*12)),dJ (nAt (ops s.ops) ((k:Int).toNat*12+1)),dJ (nAt (ops s.ops) ((k:Int).toNat*12+1+1)),dJ yy38,dJ yy37,dJ yy36,dJ yy35,dK yy34,dJ yy33,dJ yy32,dQ yy7,dQ yy6]] (RV.d (dQ yy5)))∧True∧(((!yy5)=true→tU2 (RV.tup zz1=RV.tup zz2))∧((!yy5)=false→tU2 (∃ k':Nat,(k'≤s.ops.length∧(s.ops.take k').all prtO=true)∧(s.ops.length - k' < s.ops.length - k)∧(((0=0)∧zz4∧zz5∧(dJ (wK ((k:Int)+(1:Int)))=dJ (k':Int))∧True)∧zz7))))))∧((decide ((k:Int) < yy30))=false→tU3 ((tU5 ((AnsG Tryz.prog 26 1 [aPz,AV.one (Cl.ref 1 1),AV.one (Cl.d (dS 1 ([dJ s.bits])))] [bC [Cl.lit (Value.pointer none),Cl.nil],Bx.row 9 1 ([DV.str (⟨#[98,105,116,115]⟩:ByteArray)])] ⟨AV.tup [],[bC [Cl.ptr 0 0,Cl.ref 1 (0+yy2.length)],Bx.row 5 1 ([]++zQf (toS yy2))],false⟩)∧∃ z1:Nat,(z1=0)∧(((0=0)∧(0=0)∧True)∧(zz6∧((0=0)∧(0+yy2.length=(hd1 s).length)∧True)∧([]++zQf (toS yy2)=zQf (toS (hd1 s)))∧True))))∧∀ z1:Nat,(z1=0)→(tU7 (tU8 ((AnsG Tryz.prog 26 1 [aPz,AV.one (Cl.ref 1 1),AV.one (Cl.d (dS 4 ([dJ s.c.a,dJ s.c.b,dJ s.c.c,dJ s.c.d])))] [bC [Cl.ptr 0 0,Cl.ref 2 ((hd1 s).length)],Bx.row 9 1 ([DV.str (⟨#[99,97,110,118,97,115]⟩:ByteArray)]),Bx.row 5 1 (zQf (toS (hd1 s)))] ⟨AV.tup [],[bC [Cl.ptr 0 0,Cl.ref 1 (((hd1 s).length)+yy0.length)],Bx.row 5 1 ((zQf (toS (hd1 s)))++zQf (toS yy0))],false⟩)∧∃ z2:Nat,(z2=0)∧(((0=0)∧(0=0)∧True)∧(zz6∧((0=0)∧(((hd1 s).length)+yy0.length=(hd2 s).length)∧True)∧((zQf (toS (hd1 s)))++zQf (toS yy0)=zQf (toS (hd2 s)))∧True)))))∧∀ z2:Nat,(z2=0)→(tU7 ((AnsG Tryz.prog 26 1 [aPz,AV.one (Cl.ref 1 1),AV.one (Cl.d (dS 2 ([dJ s.tw,dJ s.th])))] [bC [Cl.ptr 0 0,Cl.ref 2 ((hd2 s).length)],Bx.row 9 1 ([DV.str (⟨#[116,105,108,101,115]⟩:ByteArray)]),Bx.row 5 1 (zQf (toS (hd2 s)))] ⟨AV.tup [],[bC [Cl.ptr 0 0,Cl.ref 1 (((hd2 s).length)+yy1.length)],Bx.row 5 1 ((zQf (toS (hd2 s)))++zQf (toS yy1))],false⟩)∧∃ z3:Nat,(z3=0)∧(((0=0)∧(0=0)∧True)∧(zz6∧((0=0)∧(((hd2 s).length)+yy1.length=(hdTx s).length)∧True)∧((zQf (toS (hd2 s)))++zQf (toS yy1)=zQf (toS (hdTx s)))∧True))))∧∀ z3:Nat,(z3=0)→(tU4 ((((decide ((s.ord.length:Int) > (0:Int)))=true→tU4 ((AnsG Tryz.prog 26 1 [aPz,AV.one (Cl.ref 1 1),AV.one (Cl.d (dS s.ord.length (is s.ord)))] [bC [Cl.ptr 0 0,Cl.ref 2 ((hdTx s).length)],Bx.row 9 1 ([DV.str (⟨#[111,114,100,101,114]⟩:ByteArray)]),Bx.row 5 1 (zQf (toS (hdTx s)))] ⟨AV.tup [],[bC [Cl.ptr 0 0,Cl.ref 1 (((hdTx s).length)+yy3.length)],Bx.row 5 1 ((zQf (toS (hdTx s)))++zQf (toS yy3))],false⟩)∧∃ z4:Nat,(z4=0)∧(((0=0)∧(0=0)∧True)∧(zz6∧((0=0)∧(((hdTx s).length)+yy3.length=(fmtA s 0).length)∧True)∧((zQf (toS (hdTx s)))++zQf (toS yy3)=zQf (toS (fmtA s 0)))∧True))))∧((decide ((s.ord.length:Int) > (0:Int)))=false→∃ z4:Nat,(z4=0)∧(((0=0)∧(0=0)∧True)∧(zz6∧((0=0)∧((hdTx s).length=(fmtA s 0).length)∧True)∧(zQf (toS (hdTx s))=zQf (toS (fmtA s 0)))∧True))))))∧∀ z4:Nat,(z4=0)→tU4 (((∃ i:Nat,(i≤s.ims.length)∧(((0=0)∧(0=0)∧zz8∧zz9∧(dJ 0=dJ (i:Int))∧True)∧(zz6∧((0=0)∧((fmtA s 0).length=(fmtA s i).length)∧True)∧(zQf (toS (fmtA s 0))=zQf (toS (fmtA s i)))∧True)))∧∀ i:Nat,let yy39:=(nAt (ims s.ims) ((i:Int).toNat*28+1+1+1+1+1+1+1+1+1)); let yy40:=(nAt (ims s.ims) ((i:Int).toNat*28+1+1+1+1+1+1+1+1)); let yy41:=(nAt (ims s.ims) ((i:Int).toNat*28+1+1+1+1+1+1+1)); let yy42:=(nAt (ims s.ims) ((i:Int).toNat*28+1+1+1+1+1+1)); let yy43:=(nAt (ims s.ims) ((i:Int).toNat*28+1+1+1+1+1)); let yy44:=(nAt (ims s.ims) ((i:Int).toNat*28+1+1+1+1)); let yy45:=(nAt (ims s.ims) ((i:Int).toNat*28+1+1+1)); let yy9:=((i:Int).toNat*28+1+1+1+1+1+1+1+1+1+1+1+1+1+1+1+1+1+1+1+1+1+1+1+1+1+1+1); let yy10:=((i:Int).toNat*28+1+1+1+1+1+1+1+1+1+1+1+1+1+1+1+1+1+1+1+1+1+1+1); let yy11:=((i:Int).toNat*28+1+1+1+1+1+1+1+1+1+1+1+1+1+1+1+1+1+1+1); let yy12:=((i:Int).toNat*28+1+1+1+1+1+1+1+1+1+1+1+1+1+1+1); let yy13:=((i:Int).toNat*28+1+1+1+1+1+1+1+1+1+1+1); let yy14:=(nAt (ims s.ims) ((i:Int).toNat*28+1+1+1+1+1+1+1+1+1+1+1+1+1+1+1+1+1+1+1+1+1+1+1+1+1+1)); let yy15:=(nAt (ims s.ims) ((i:Int).toNat*28+1+1+1+1+1+1+1+1+1+1+1+1+1+1+1+1+1+1+1+1+1+1+1+1+1)); let yy16:=(nAt (ims s.ims) ((i:Int).toNat*28+1+1+1+1+1+1+1+1+1+1+1+1+1+1+1+1+1+1+1+1+1+1+1+1)); let yy17:=(nAt (ims s.ims) ((i:Int).toNat*28+1+1+1+1+1+1+1+1+1+1+1+1+1+1+1+1+1+1+1+1+1+1)); let yy18:=(nAt (ims s.ims) ((i:Int).toNat*28+1+1+1+1+1+1+1+1+1+1+1+1+1+1+1+1+1+1+1+1+1)); let yy19:=(nAt (ims s.ims) ((i:Int).toNat*28+1+1+1+1+1+1+1+1+1+1+1+1+1+1+1+1+1+1+1+1)); let yy20:=(nAt (ims s.ims) ((i:Int).toNat*28+1+1+1+1+1+1+1+1+1+1+1+1+1+1+1+1+1+1)); let yy21:=(nAt (ims s.ims) ((i:Int).toNat*28+1+1+1+1+1+1+1+1+1+1+1+1+1+1+1+1+1)); let yy22:=(nAt (ims s.ims) ((i:Int).toNat*28+1+1+1+1+1+1+1+1+1+1+1+1+1+1+1+1)); let yy23:=(nAt (ims s.ims) ((i:Int).toNat*28+1+1+1+1+1+1+1+1+1+1+1+1+1+1)); let yy24:=(nAt (ims s.ims) ((i:Int).toNat*28+1+1+1+1+1+1+1+1+1+1+1+1+1)); let yy25:=(nAt (ims s.ims) ((i:Int).toNat*28+1+1+1+1+1+1+1+1+1+1+1+1)); let yy26:=(nAt (ims s.ims) ((i:Int).toNat*28+1+1+1+1+1+1+1+1+1+1)); let yy8:=(imTx ⟨(nAt (ims s.ims) ((i:Int).toNat*28)),(nAt (ims s.ims) ((i:Int).toNat*28+1)),(bAt (ims s.ims) ((i:Int).toNat*28+1+1)),⟨yy45,yy44,yy43,yy42,yy41⟩,⟨yy40,yy39,yy26,(lAt (ims s.ims) yy13),(cAt (ims s.ims) yy13)⟩,⟨yy25,yy24,yy23,(lAt (ims s.ims) yy12),(cAt (ims s.ims) yy12)⟩,⟨yy22,yy21,yy20,(lAt (ims s.ims) yy11),(cAt (ims s.ims) yy11)⟩,⟨yy19,yy18,yy17,(lAt (ims s.ims) yy10),(cAt (ims s.ims) yy10)⟩,⟨yy16,yy15,yy14,(lAt (ims s.ims) yy9),(cAt (ims s.ims) yy9)⟩⟩); (i≤s.ims.length)→True∧(((decide ((i:Int) < yy31))=true→(0≤(i:Int)∧(i:Int) < yy31∧(i:Int).toNat*28 < (ims s.ims).length)∧(((ims s.ims)[(i:Int).toNat*28]?=some (dJ (nAt (ims s.ims) ((i:Int).toNat*28))))∧((ims s.ims)[(i:Int).toNat*28+1]?=some (dJ (nAt (ims s.ims) ((i:Int).toNat*28+1))))∧((ims s.ims)[(i:Int).toNat*28+1+1]?=some (dQ (bAt (ims s.ims) ((i:Int).toNat*28+1+1))))∧((ims s.ims)[(i:Int).toNat*28+1+1+1]?=some (dK yy45))∧((ims s.ims)[(i:Int).toNat*28+1+1+1+1]?=some (dK yy44))∧((ims s.ims)[(i:Int).toNat*28+1+1+1+1+1]?=some (dK yy43))∧((ims s.ims)[(i:Int).toNat*28+1+1+1+1+1+1]?=some (dK yy42))∧((ims s.ims)[(i:Int).toNat*28+1+1+1+1+1+1+1]?=some (dK yy41))∧((ims s.ims)[(i:Int).toNat*28+1+1+1+1+1+1+1+1]?=some (dJ yy40))∧((ims s.ims)[(i:Int).toNat*28+1+1+1+1+1+1+1+1+1]?=some (dJ yy39))∧((ims s.ims)[(i:Int).toNat*28+1+1+1+1+1+1+1+1+1+1]?=some (dJ yy26))∧((ims s.ims)[(i:Int).toNat*28+1+1+1+1+1+1+1+1+1+1+1]?=some (dS (lAt (ims s.ims) yy13) (cAt (ims s.ims) yy13)))∧((ims s.ims)[(i:Int).toNat*28+1+1+1+1+1+1+1+1+1+1+1+1]?=some (dJ yy25))∧((ims s.ims)[(i:Int).toNat*28+1+1+1+1+1+1+1+1+1+1+1+1+1]?=some (dJ yy24))∧((ims s.ims)[(i:Int).toNat*28+1+1+1+1+1+1+1+1+1+1+1+1+1+1]?=some (dJ yy23))∧((ims s.ims)[(i:Int).toNat*28+1+1+1+1+1+1+1+1+1+1+1+1+1+1+1]?=some (dS (lAt (ims s.ims) yy12) (cAt (ims s.ims) yy12)))∧((ims s.ims)[(i:Int).toNat*28+1+1+1+1+1+1+1+1+1+1+1+1+1+1+1+1]?=some (dJ yy22))∧((ims s.ims)[(i:Int).toNat*28+1+1+1+1+1+1+1+1+1+1+1+1+1+1+1+1+1]?=some (dJ yy21))∧((ims s.ims)[(i:Int).toNat*28+1+1+1+1+1+1+1+1+1+1+1+1+1+1+1+1+1+1]?=some (dJ yy20))∧((ims s.ims)[(i:Int).toNat*28+1+1+1+1+1+1+1+1+1+1+1+1+1+1+1+1+1+1+1]?=some (dS (lAt (ims s.ims) yy11) (cAt (ims s.ims) yy11)))∧((ims s.ims)[(i:Int).toNat*28+1+1+1+1+1+1+1+1+1+1+1+1+1+1+1+1+1+1+1+1]?=some (dJ yy19))∧((ims s.ims)[(i:Int).toNat*28+1+1+1+1+1+1+1+1+1+1+1+1+1+1+1+1+1+1+1+1+1]?=some (dJ yy18))∧((ims s.ims)[(i:Int).toNat*28+1+1+1+1+1+1+1+1+1+1+1+1+1+1+1+1+1+1+1+1+1+1]?=some (dJ yy17))∧((ims s.ims)[(i:Int).toNat*28+1+1+1+1+1+1+1+1+1+1+1+1+1+1+1+1+1+1+1+1+1+1+1]?=some (dS (lAt (ims s.ims) yy10) (cAt (ims s.ims) yy10)))∧((ims s.ims)[(i:Int).toNat*28+1+1+1+1+1+1+1+1+1+1+1+1+1+1+1+1+1+1+1+1+1+1+1+1]?=some (dJ yy16))∧((ims s.ims)[(i:Int).toNat*28+1+1+1+1+1+1+1+1+1+1+1+1+1+1+1+1+1+1+1+1+1+1+1+1+1]?=some (dJ yy15))∧((ims s.ims)[(i:Int).toNat*28+1+1+1+1+1+1+1+1+1+1+1+1+1+1+1+1+1+1+1+1+1+1+1+1+1+1]?=some (dJ yy14))∧((ims s.ims)[(i:Int).toNat*28+1+1+1+1+1+1+1+1+1+1+1+1+1+1+1+1+1+1+1+1+1+1+1+1+1+1+1]?=some (dS (lAt (ims s.ims) yy9) (cAt (ims s.ims) yy9)))∧True)∧tU4 ((AnsG Tryz.prog 27 1 [aPz,AV.agg [cJ ((nAt (ims s.ims) ((i:Int).toNat*28))),cJ ((nAt (ims s.ims) ((i:Int).toNat*28+1))),Cl.d (dQ (bAt (ims s.ims) ((i:Int).toNat*28+1+1))),cK (yy45),cK (yy44),cK (yy43),cK (yy42),cK (yy41),cJ (yy40),cJ (yy39),cJ (yy26),Cl.d (dS (lAt (ims s.ims) yy13) (cAt (ims s.ims) yy13)),cJ (yy25),cJ (yy24),cJ (yy23),Cl.d (dS (lAt (ims s.ims) yy12) (cAt (ims s.ims) yy12)),cJ (yy22),cJ (yy21),cJ (yy20),Cl.d (dS (lAt (ims s.ims) yy11) (cAt (ims s.ims) yy11)),cJ (yy19),cJ (yy18),cJ (yy17),Cl.d (dS (lAt (ims s.ims) yy10) (cAt (ims s.ims) yy10)),cJ (yy16),cJ (yy15),cJ (yy14),Cl.d (dS (lAt (ims s.ims) yy9) (cAt (ims s.ims) yy9))]] [bC [Cl.ptr 0 0,Cl.ref 1 ((fmtA s i).length)],Bx.row 5 1 (zQf (toS (fmtA s i)))] ⟨AV.tup [],[bC [Cl.ptr 0 0,Cl.ref 1 (((fmtA s i).length)+yy8.length)],Bx.row 5 1 ((zQf (toS (fmtA s i)))++zQf (toS yy8))],false⟩)∧tU2 (∃ i':Nat,(i'≤s.ims.length)∧(s.ims.length - i' < s.ims.length - i)∧(((0=0)∧(0=0)∧zz8∧zz9∧(dJ (wK ((i:Int)+(1:Int)))=dJ (i':Int))∧True)∧(zz6∧((0=0)∧(((fmtA s i).length)+yy8.length=(fmtA s i').length)∧True)∧((zQf (toS (fmtA s i)))++zQf (toS yy8)=zQf (toS (fmtA s i')))∧True)))))∧((decide ((i:Int) < yy31))=false→tU4 (((∃ j:Nat,(j≤s.ops.length)∧(((0=0)∧zz4∧zz5∧(dJ 0=dJ (j:Int))∧True)∧(((0=0)∧((fmtA s i).length=(fmtC s j).length)∧True)∧(zQf (toS (fmtA s i))=zQf (toS (fmtC s j)))∧True)))∧∀ j:Nat,let yy46:=(nAt (ops s.ops) ((j:Int).toNat*12+1+1+1+1+1+1+1+1+1)); let yy47:=(nAt (ops s.ops) ((j:Int).toNat*12+1+1+1+1+1+1+1+1)); let yy48:=(nAt (ops s.ops) ((j:Int).toNat*12+1+1+1+1+1+1+1)); let yy49:=(nAt (ops s.ops) ((j:Int).toNat*12+1+1+1+1+1+1)); let yy50:=(nAt (ops s.ops) ((j:Int).toNat*12+1+1+1+1+1)); let yy51:=(nAt (ops s.ops) ((j:Int).toNat*12+1+1+1+1)); let yy52:=(nAt (ops s.ops) ((j:Int).toNat*12+1+1+1)); let yy28:=(bAt (ops s.ops) ((j:Int).toNat*12+1+1+1+1+1+1+1+1+1+1+1)); let yy29:=(bAt (ops s.ops) ((j:Int).toNat*12+1+1+1+1+1+1+1+1+1+1)); let yy27:=(opLn ⟨(nAt (ops s.ops) ((j:Int).toNat*12)),(nAt (ops s.ops) ((j:Int).toNat*12+1)),(nAt (ops s.ops) ((j:Int).toNat*12+1+1)),yy52,yy51,yy50,yy49,yy48,yy47,yy46,yy29,yy28⟩); (j≤s.ops.length)→True∧(((decide ((j:Int) < yy30))=true→(0≤(j:Int)∧(j:Int) < yy30∧(j:Int).toNat*12 < (ops s.ops).length)∧(((ops s.ops)[(j:Int).toNat*12]?=some (dJ (nAt (ops s.ops) ((j:Int).toNat*12))))∧((ops s.ops)[(j:Int).toNat*12+1]?=some (dJ (nAt (ops s.ops) ((j:Int).toNat*12+1))))∧((ops s.ops)[(j:Int).toNat*12+1+1]?=some (dJ (nAt (ops s.ops) ((j:Int).toNat*12+1+1))))∧((ops s.ops)[(j:Int).toNat*12+1+1+1]?=some (dJ yy52))∧((ops s.ops)[(j:Int).toNat*12+1+1+1+1]?=some (dJ yy51))∧((ops s.ops)[(j:Int).toNat*12+1+1+1+1+1]?=some (dJ yy50))∧((ops s.ops)[(j:Int).toNat*12+1+1+1+1+1+1]?=some (dJ yy49))∧((ops s.ops)[(j:Int).toNat*12+1+1+1+1+1+1+1]?=some (dK yy48))∧((ops s.ops)[(j:Int).toNat*12+1+1+1+1+1+1+1+1]?=some (dJ yy47))∧((ops s.ops)[(j:Int).toNat*12+1+1+1+1+1+1+1+1+1]?=some (dJ yy46))∧((ops s.ops)[(j:Int).toNat*12+1+1+1+1+1+1+1+1+1+1]?=some (dQ yy29))∧((ops s.ops)[(j:Int).toNat*12+1+1+1+1+1+1+1+1+1+1+1]?=some (dQ yy28))∧True)∧tU4 ((AnsG Tryz.prog 28 1 [aPz,AV.agg [cJ ((nAt (ops s.ops) ((j:Int).toNat*12))),cJ ((nAt (ops s.ops) ((j:Int).toNat*12+1))),cJ ((nAt (ops s.ops) ((j:Int).toNat*12+1+1))),cJ (yy52),cJ (yy51),cJ (yy50),cJ (yy49),cK (yy48),cJ (yy47),cJ (yy46),Cl.d (dQ yy29),Cl.d (dQ yy28)]] (zz10 j) ⟨AV.tup [],[bC [Cl.ptr 0 0,Cl.ref 1 (((fmtC s j).length)+yy27.length)],Bx.row 5 1 ((zQf (toS (fmtC s j)))++zQf (toS yy27))],false⟩)∧tU2 (∃ j':Nat,(j'≤s.ops.length)∧(s.ops.length - j' < s.ops.length - j)∧(((0=0)∧zz4∧zz5∧(dJ (wK ((j:Int)+(1:Int)))=dJ (j':Int))∧True)∧(((0=0)∧(((fmtC s j).length)+yy27.length=(fmtC s j').length)∧True)∧((zQf (toS (fmtC s j)))++zQf (toS yy27)=zQf (toS (fmtC s j')))∧True)))))∧((decide ((j:Int) < yy30))=false→tU3 ((AnsG Tryz.prog 29 0 [aPz] (zz10 j) ⟨AV.one (Cl.d (zz11 j)),[],false⟩)∧tU2 (RV.tup [RV.d (zz11 j),rJ (0)]=RV.tup zz2))))))))))))))))))):=by kernel_rfl
theorem zKi (s:Scr) (hM:∀ m∈s.ims,m.isU) (hp:∀ m∈s.ims,m.formed=true→imIn m) (hq:∀ o∈s.ops,0≤o.opac∧o.opac≤65535) (hol:s.ord.length≤17592186044416):Ans Tryz.prog 11 [RV.agg [DV.int .i64 s.bits,DV.int .i64 s.c.a,DV.int .i64 s.c.b,DV.int .i64 s.c.c,DV.int .i64 s.c.d,DV.int .i64 s.tw,DV.int .i64 s.th,DV.sl s.ord.length (is s.ord),DV.sl s.ims.length (ims s.ims),DV.sl s.ops.length (ops s.ops)]] (RV.tup [RV.d (DV.str (toS (fmtR s).1)),RV.d (DV.int .i64 ((fmtR s).2))]):=
 zQo (Γ:=jGc) (zKj s) zQC Tryz.func11 rfl (Nat.le_of_ble_eq_true rfl) fun hwf=>by
  refine Eq.mpr (zHq s) ?_
  delta tU2 tU3 tU4 tU5 tU7 tU8 dJ dK dQ cJ cK wK dS rJ aPz bC
  simp only [true_and,and_true,RV.d.injEq,RV.agg.injEq,RV.tup.injEq,DV.bool.injEq,DV.int.injEq,DV.sl.injEq,List.cons.injEq,forall_const,Bool.not_false,Bool.not_true,Bool.not_eq_true',Bool.not_eq_false',decide_eq_true_eq,decide_eq_false_iff_not,Int.toNat_natCast]
  simp only [zQZ,zZP,zZu,zQL,Scr.eta_]
  have hmn:IntKind.min .i64 = -9223372036854775808:=by decide
  have hmx:IntKind.max .i64=9223372036854775807:=by decide
  simp only [RV.wfs,RV.wf,DV.wf,DV.wfs,maxLen,hmn,hmx] at hwf
  have hos:s.ops.length≤9223372036854775807:=by omega
  have hbits : -9223372036854775808≤s.bits∧s.bits≤9223372036854775807:=by omega
  clear hwf hmn hmx
  have hM9:∀ k:Nat,k≤1000000000000→k≤maxLen:=fun k h=>by unfold maxLen; omega
  have lb:(⟨#[98,105,116,115]⟩:ByteArray)=toS zYG:=rfl
  have lc:(⟨#[99,97,110,118,97,115]⟩:ByteArray)=toS zZL:=rfl
  have lt:(⟨#[116,105,108,101,115]⟩:ByteArray)=toS zXo:=rfl
  have lor:(⟨#[111,114,100,101,114]⟩:ByteArray)=toS zZD:=rfl
  have e0:(⟨#[]⟩:ByteArray)=toS []:=rfl
  have r1:∀ w:Lb,[DV.str (toS w)]=strs [w]:=fun w=>rfl
  have j1:∀ a:Int,[DV.int .i64 a]=is [a]:=fun _=>rfl
  have j2:∀ a b:Int,[DV.int .i64 a,DV.int .i64 b]=is [a,b]:=fun _ _=>rfl
  have j4:∀ a b c d:Int,[DV.int .i64 a,DV.int .i64 b,DV.int .i64 c,DV.int .i64 d]=is [a,b,c,d]:=fun _ _ _ _=>rfl
  have b1:zQ4 ([zYG]++digW [s.bits])=hd1 s:=zZN _ _ (by decide)
  have b2:zQ4 ([zZL]++digW [s.c.a,s.c.b,s.c.c,s.c.d])=zQ3 zZL [s.c.a,s.c.b,s.c.c,s.c.d]++[10]:=zZN _ _ (by decide)
  have b3:zQ4 ([zXo]++digW [s.tw,s.th])=zQ3 zXo [s.tw,s.th]++[10]:=zZN _ _ (by decide)
  have b4:zQ4 ([zZD]++digW s.ord)=zQ3 zZD s.ord++[10]:=zZN _ _ (by decide)
  simp only [e0,lb,lc,lt,lor,r1,↓j4,↓j2,↓j1,zQZ,zQL,Scr.eta_,b1,b2,b3,b4,DV.str.injEq,List.nil_append,Nat.zero_add,jXF]
  have no:∀ h:zUc s=false,fmtR s=([],19):=fun h=>by unfold fmtR; rw [if_neg (by rw [h]; decide)]
  refine ⟨zYf s hM hol,fun h=>?_,fun h=>⟨⟨0,⟨Nat.zero_le _,rfl⟩,rfl⟩,fun k hk=>⟨fun hlt=>?_,fun hge=>?_⟩⟩⟩
  ·rw [no (by unfold zUc; rw [h]; rfl)]; exact ⟨rfl,rfl⟩
  ·have hk':k < s.ops.length:=by omega
   obtain ⟨hk1,hk2⟩:=hk
   have q1:=zGA hk'
   have q2:=zGC hk'
   have hml:=zZl s.ops
   have aP:=zYI s.ops[k]
   have hm:s.ops[k]∈s.ops:=List.getElem_mem hk'
   have hts:s.ops.take (k+1)=s.ops.take k++[s.ops[k]]:=by rw [List.take_add_one,List.getElem?_eq_getElem hk']; rfl
   obtain ⟨o,ho⟩:∃ o,s.ops[k]=o:=⟨_,rfl⟩
   simp only [ho] at q1 q2 aP hm hts
   have wi:IntKind.wrap .i64 ((k:Int)+1)=((k+1:Nat):Int):=by rw [IntWalk.i64_in _ ⟨by omega,by omega⟩]; omega
   simp only [q2,wi,Oq.eta_]
   refine ⟨⟨by omega,by omega,by omega⟩,q1,aP,fun hp=>?_,fun hp=>⟨k+1,⟨by omega,?_⟩,by omega,rfl⟩⟩
   ·have:s.ops.all prtO=false:=List.all_eq_false.2 ⟨o,hm,by rw [hp]; decide⟩
    rw [no (by unfold zUc; rw [this,Bool.and_false])]; exact ⟨rfl,rfl⟩
   ·rw [hts,List.all_append,hk2]; simp [hp]
  ·have hkk:k=s.ops.length:=by omega
   subst hkk
   have hall:=hk.2
   rw [List.take_length] at hall
   have hok:zUc s=true:=by unfold zUc; rw [h,hall]; rfl
   have eR:fmtR s=(fmtT s,0):=by unfold fmtR; rw [if_pos hok]
   have PP_:=jKw hok
   have hI:∀ m∈s.ims,imIn m:=fun m hm=>hp m hm (PP_.fm m hm)
   obtain ⟨c1,c2,c3,c4⟩:=jQ2 PP_
   have hAl:=jJg PP_ hI
   have hCl:=jWf PP_ hI hq
   have hol:=PP_.ol
   have hil:=PP_.il
   have hpl:=PP_.pl
   have L1:(hd1 s).length≤100:=by unfold hd1; simp; omega
   have L2:(hd2 s).length≤300:=by unfold hd2; simp; omega
   have L3:(hdTx s).length≤500:=by rw [hd3]; simp; omega
   refine ⟨?_,fun z1 _=>⟨?_,fun z2 _=>⟨?_,fun z3 _=>⟨⟨fun g=>?_,fun g=>?_⟩,fun z4 _=>⟨?_,fun i hi=>⟨fun hlt=>?_,fun hge=>?_⟩⟩⟩⟩⟩⟩
   ·refine ⟨?_,0,rfl,trivial,trivial⟩
    have:=zJ4 (toS zYG) s.bits (by decide) hbits
    have e:hd1 s=zYG++(32::itoa s.bits++[10]):=by unfold hd1; rw [zYV _ _ (by decide)]; simp [jt,digW]
    rw [zZx,← e,zZe,← List.length_append,← e] at this
    exact this
   ·exact ⟨zYr (hd1 s) zZL [s.c.a,s.c.b,s.c.c,s.c.d] _ b2 (by show (hd2 s).length≤_; omega) (by simp),0,rfl,(by show _=(hd1 s++_).length; exact List.length_append.symm),rowB rfl⟩
   ·exact ⟨zYr (hd2 s) zXo [s.tw,s.th] _ b3 (by rw [← hd3]; omega) (by simp),0,rfl,(by rw [hd3]; exact List.length_append.symm),rowB (hd3 s)⟩
   ·have e:fmtA s 0=hdTx s++(zQ3 zZD s.ord++[10]):=by unfold fmtA orTx; rw [if_pos (by omega)]; simp
    have hA0:=hAl 0
    exact ⟨zYr (hdTx s) zZD s.ord _ b4 (by rw [← e]; omega) (by omega),0,rfl,(by rw [e]; exact List.length_append.symm),rowB e⟩
   ·have e:fmtA s 0=hdTx s:=by unfold fmtA orTx; rw [if_neg (by omega)]; simp
    rw [e]; exact ⟨0,rfl,rfl,rfl⟩
   ·exact ⟨0,Nat.zero_le _,rfl,rfl,rfl⟩
   ·have hk:i < s.ims.length:=by omega
    obtain ⟨m,hmk⟩:∃ m,s.ims[i]=m:=⟨_,rfl⟩
    have q1:=jZ4 hk
    have q2:=jZ5 hk
    have eS:=jK3 hk
    have hm:m∈s.ims:=hmk ▸ List.getElem_mem hk
    simp only [hmk] at q1 q2 eS
    clear hmk
    have w1:IntKind.wrap .i64 ((i:Int)+1)=((i+1:Nat):Int):=by rw [IntWalk.i64_in _ ⟨by omega,by omega⟩]; omega
    have hIk:=hI _ hm
    have hfm:=hIk.1
    have hpl:m.pixels.length≤16777216:=by have h1:=Im.pixels_len hfm; have:=(sizeIm_le' hfm); omega
    have hA1:=hAl (i+1)
    rw [eS,List.length_append] at hA1
    have aI:=zJ6 (fmtA s i).length (zQf (toS (fmtA s i))) m (lenB _) (by omega) (hM _ hm) (by omega)
    have iml:=zXq s.ims
    simp only [q2,w1]
    refine ⟨⟨by omega,by omega,by omega⟩,q1,aI,i+1,by omega,by omega,rfl,(by rw [eS]; exact List.length_append.symm),rowB eS⟩
   ·have:i=s.ims.length:=by omega
    subst this
    refine ⟨⟨0,Nat.zero_le _,rfl,by unfold fmtC; simp,by unfold fmtC; simp⟩,fun j hj=>⟨fun hlt=>?_,fun hge=>?_⟩⟩
    ·have hj:j < s.ops.length:=by omega
     obtain ⟨o,hoj⟩:∃ o,s.ops[j]=o:=⟨_,rfl⟩
     have q1:=zGA hj
     have q2:=zGC hj
     have eS:=jK2 hj
     have hm:o∈s.ops:=hoj ▸ List.getElem_mem hj
     simp only [hoj] at q1 q2 eS
     clear hoj
     have w1:IntKind.wrap .i64 ((j:Int)+1)=((j+1:Nat):Int):=by rw [IntWalk.i64_in _ ⟨by omega,by omega⟩]; omega
     have hC1:=hCl (j+1)
     rw [eS,List.length_append] at hC1
     have aX:=zWa (fmtC s j).length (zQf (toS (fmtC s j))) o (lenB _) (by omega)
     simp only [Oq.eta_] at aX
     have hml:=zZl s.ops
     simp only [q2,w1,Oq.eta_]
     refine ⟨⟨by omega,by omega,by omega⟩,q1,aX,j+1,by omega,by omega,rfl,(by rw [eS]; exact List.length_append.symm),rowB eS⟩
    ·have:j=s.ops.length:=by omega
     subst this
     have hne:fmtC s s.ops.length≠[]:=by
      rw [jJf]; unfold fmtT hdTx
      rw [zYV _ _ (by decide)]; simp [zYG]
     have hCe:=hCl s.ops.length
     refine ⟨zHi _ hne (by omega),?_⟩
     rw [eR,jJf]
     exact ⟨rfl,rfl⟩
end Go.Proofs.YtheidkkebdhmkaaGreatDoor
namespace Go.Proofs.YtheidkkebdhmkaaGreatDoor
open Go.RowKit Go.Lib
set_option linter.unusedVariables false
set_option linter.unusedSimpArgs false
def Step (s:LQ→LQ) (P:Lb→Bool):Prop:=(∀ w r b,s ⟨w::r,b⟩=⟨r,b || !P w⟩)∧∀ b,s ⟨[],b⟩=⟨[],true⟩
def allP:List (Lb→Bool)→List Lb→Bool
 | [],[]=>true
 | P::Ps,w::ws=>P w && allP Ps ws
 | _,_=>false
inductive jVt:List (LQ→LQ)→List (Lb→Bool)→Prop
 | nil:jVt [] []
 | cons {s:LQ→LQ} {P:Lb→Bool} {ss:List (LQ→LQ)} {Ps:List (Lb→Bool)}:Step s P→jVt ss Ps→jVt (s::ss) (P::Ps)
def jWm (ss:List (LQ→LQ)) (q:LQ):LQ:=ss.foldl (fun q s=>s q) q
theorem zJG {ss:List (LQ→LQ)} {Ps:List (Lb→Bool)} (h:jVt ss Ps):∀ (ws:List Lb) (b:Bool),cmpQ (jWm ss ⟨ws,b⟩)=(!b && allP Ps ws):=by
 induction h with
 | nil=>intro ws b; cases ws <;> simp [jWm,cmpQ,allP]
 | @cons s P ss Ps hs _ ih=>
  intro ws b
  have e:jWm (s::ss) ⟨ws,b⟩=jWm ss (s ⟨ws,b⟩):=rfl
  rw [e]
  cases ws with
  | nil=>rw [hs.2,ih]; simp [allP]
  | cons w r=>rw [hs.1,ih]; simp [allP]; cases b <;> cases P w <;> rfl
theorem zZE (lo hi:Int):Step (fun q=>(numQ q lo hi).2) (okN lo hi):=by
 refine ⟨fun w r b=>?_,fun b=>?_⟩
 ·show (numQ ⟨w::r,b⟩ lo hi).2=_
  unfold numQ
  cases h:okN lo hi w with
  | true=>rw [if_pos (show okN lo hi (zQ6 (w::r))=true from h)]; simp [zQ1]
  | false=>rw [if_neg (by show ¬okN lo hi w=true; rw [h]; decide)]; simp
 ·show (numQ ⟨[],b⟩ lo hi).2=_
  unfold numQ
  rw [if_neg (by show ¬okN lo hi []=true; simp [okN,zY6,unsg])]
  rfl
theorem jY1 (g:Int→ByteArray):Step (fun q=>(namQ g q).2) (fun w=>(nmR g w).2):=by
 refine ⟨fun w r b=>?_,fun b=>?_⟩
 ·show (namQ g ⟨w::r,b⟩).2=_
  simp [namQ,zQ1,zQ6]
 ·show (namQ g ⟨[],b⟩).2=_
  simp [namQ,zQ1]
theorem zZm {lo hi:Int} {w:Lb} (h:okN lo hi w=true) (r:List Lb) (b:Bool):numQ ⟨w::r,b⟩ lo hi=(numV w,⟨r,b⟩):=by
 unfold numQ
 rw [if_pos (show okN lo hi (zQ6 (w::r))=true from h)]
 simp [zQ1,zQ6]
theorem jQT {g:Int→ByteArray} {w:Lb} (h:(nmR g w).2=true) (r:List Lb) (b:Bool):namQ g ⟨w::r,b⟩=((nmR g w).1,⟨r,b⟩):=by
 simp [namQ,zQ1,zQ6,h]
def p5:List (Lb→Bool):=[okN 0 65535,okN 0 65535,okN 0 65535,okN 0 65535,okN 0 65535]
theorem jZP:jVt [fun q=>(numQ q 0 65535).2,fun q=>(numQ q 0 65535).2,fun q=>(numQ q 0 65535).2,fun q=>(numQ q 0 65535).2,fun q=>(numQ q 0 65535).2] p5:=
 .cons (zZE _ _) (.cons (zZE _ _) (.cons (zZE _ _) (.cons (zZE _ _) (.cons (zZE _ _) .nil))))
theorem jKz (ws:List Lb):allP p5 ws=(pixW ws).2:=by
 rcases ws with _ | ⟨a,_ | ⟨b,_ | ⟨c,_ | ⟨d,_ | ⟨e,_ | ⟨f,r⟩⟩⟩⟩⟩⟩
 case cons.cons.cons.cons.cons.nil=>
  by_cases h:[a,b,c,d,e].all (okN 0 65535)=true
  ·rw [jZQ h]
   simpa [allP,p5] using h
  ·rw [jYL (fun g=>h g.1)]
   cases hh:allP p5 [a,b,c,d,e] with
   | false=>rfl
   | true=>exact absurd (by simpa [allP,p5] using hh) h
 all_goals
  rw [jYL (fun g=>by simp at g)]
  simp [allP,p5]
theorem jYK (ws:List Lb):cmpQ (pixQ ⟨ws,false⟩).2=(pixW ws).2∧((pixW ws).2=true→(pixQ ⟨ws,false⟩).1=(pixW ws).1):=by
 refine ⟨?_,fun h=>?_⟩
 ·rw [← jKz]
  have:=zJG jZP ws false
  rw [Bool.not_false,Bool.true_and] at this
  exact this
 ·have h0:=h
  rw [← jKz] at h0
  rcases ws with _ | ⟨a,_ | ⟨b,_ | ⟨c,_ | ⟨d,_ | ⟨e,_ | ⟨f,r⟩⟩⟩⟩⟩⟩
  case cons.cons.cons.cons.cons.nil=>
   have hA:[a,b,c,d,e].all (okN 0 65535)=true:=by simpa [allP,p5] using h0
   rw [jZQ hA]
   simp only [allP,p5,Bool.and_eq_true] at h0
   obtain ⟨h1,h2,h3,h4,h5,_⟩:=h0
   unfold pixQ
   rw [zZm h1]; simp only
   rw [zZm h2]; simp only
   rw [zZm h3]; simp only
   rw [zZm h4]; simp only
   rw [zZm h5]
  all_goals simp [allP,p5] at h0
structure Sim (p:PP) (r:RP):Prop where
  s:p.s=r.s
  d0:0≤p.part
  d5:p.part≤5
  hd:r.hd=if p.part≤3 then p.part else 3
  rp:r.part=if p.part≤3 then 0 else p.part - 3
  od:p.part≤3→p.s.ord=[]
  pt:∀ o∈p.s.ops,prtO o=true
  inn:(p.h=0∧r.left=0∧p.px=[]∧r.px=[])∨(1≤p.w∧1≤p.h∧p.w=r.w∧p.h=r.h∧p.px=r.px∧p.part=4∧r.left=p.w*p.h - (p.px.length:Int)∧0 < r.left)
theorem jKg:Sim zPP zRP:=⟨rfl,by decide,by decide,by decide,by decide,fun _=>rfl,fun o h=>(by cases h),.inl ⟨rfl,rfl,rfl,rfl⟩⟩
theorem jKh {p:PP} {r:RP} (h:Sim p r) (ws:List Lb) (hin:0 < p.h) :
  let R:RP × Bool:=if r.left=1 then ({ r with left:=0,s:={ r.s with ims:=r.s.ims++[imOf r.w r.h (r.px++[(pixW ws).1])] },px:=[] },(pixW ws).2)
   else ({ r with left:=r.left - 1,px:=r.px++[(pixW ws).1] },(pixW ws).2)
  (zQJ p ⟨ws,false⟩).2=R.2∧((zQJ p ⟨ws,false⟩).2=true→Sim (zQJ p ⟨ws,false⟩).1 R.1):=by
 obtain ⟨e1,e2⟩:=jYK ws
 rcases h.inn with h0 | ⟨i1,i2,i3,i4,i5,i6,i7,i8⟩
 ·omega
 have R2:(if r.left=1 then ({ r with left:=0,s:={ r.s with ims:=r.s.ims++[imOf r.w r.h (r.px++[(pixW ws).1])] },px:=[] },(pixW ws).2)
   else (({ r with left:=r.left - 1,px:=r.px++[(pixW ws).1] },(pixW ws).2):RP × Bool)).2=(pixW ws).2:=by split <;> rfl
 cases hc:(pixW ws).2 with
 | false=>
  have:zQJ p ⟨ws,false⟩=({ p with px:=p.px++[(pixQ ⟨ws,false⟩).1] },false):=by unfold zQJ; rw [if_neg (by rw [e1,hc]; decide)]
  rw [this]
  refine ⟨?_,fun h=>by cases h⟩
  rw [hc] at R2
  exact R2.symm
 | true=>
  have e2:=e2 hc
  by_cases hl:r.left=1
  ·have:zQJ p ⟨ws,false⟩=(⟨{ p.s with ims:=p.s.ims++[imOf p.w p.h (p.px++[(pixW ws).1])] },p.part,0,0,[]⟩,true):=by
    unfold zQJ; rw [if_pos (by rw [e1,hc]),if_pos (by omega),e2]
   rw [this]
   simp only [if_pos hl]
   refine ⟨trivial,fun _=>⟨?_,h.d0,h.d5,h.hd,h.rp,h.od,h.pt,.inl ⟨rfl,rfl,rfl,rfl⟩⟩⟩
   rw [h.s,i3,i4,i5]
  ·have:zQJ p ⟨ws,false⟩=({ p with px:=p.px++[(pixW ws).1] },true):=by
    unfold zQJ; rw [if_pos (by rw [e1,hc]),if_neg (by omega),e2]
   rw [this]
   simp only [if_neg hl]
   refine ⟨trivial,fun _=>⟨h.s,h.d0,h.d5,h.hd,h.rp,h.od,h.pt,.inr ⟨i1,i2,i3,i4,by rw [i5],i6,?_,by show 0 < r.left - 1; omega⟩⟩⟩
   show r.left - 1=p.w*p.h - (((p.px++[(pixW ws).1]).length:Nat):Int)
   simp
   omega
theorem jV7 (r:List Lb):cmpQ (byQ ⟨r,false⟩).2=allP [okN 0 255] r:=by
 have:=zJG (.cons (zZE 0 255) .nil) r false
 rw [Bool.not_false,Bool.true_and] at this
 exact this
theorem jKY (r:List Lb):cmpQ (plQ (plQ (plQ (plQ ⟨r,false⟩).2).2).2).2=allP [okN (-2147483648) 2147483647,okN (-2147483648) 2147483647,okN (-2147483648) 2147483647,okN (-2147483648) 2147483647] r:=by
 have:=zJG (.cons (zZE (-2147483648) 2147483647) (.cons (zZE (-2147483648) 2147483647) (.cons (zZE (-2147483648) 2147483647) (.cons (zZE (-2147483648) 2147483647) .nil)))) r false
 rw [Bool.not_false,Bool.true_and] at this
 exact this
theorem jV6 (r:List Lb):cmpQ (numQ (numQ ⟨r,false⟩ 0 4294967295).2 0 4294967295).2=allP [okN 0 4294967295,okN 0 4294967295] r:=by
 have:=zJG (.cons (zZE 0 4294967295) (.cons (zZE 0 4294967295) .nil)) r false
 rw [Bool.not_false,Bool.true_and] at this
 exact this
theorem jYX {w:Lb} {lo hi:Int} (h:okN lo hi w=true):(numR w lo hi).1=numV w:=by
 have:zY6 w=true:=by unfold okN at h; simp only [Bool.and_eq_true] at h; exact h.1.1
 unfold numR; rw [this]; rfl
theorem jVy {p:PP} {r:RP} (h:Sim p r) (k:Lb) (ws:List Lb) (hp:p.part≤2) :
  (zZO p ⟨ws,false⟩ k).2=(zJx { r with hd:=r.hd+1 } (k::ws)).2∧((zZO p ⟨ws,false⟩ k).2=true→Sim (zZO p ⟨ws,false⟩ k).1 (zJx { r with hd:=r.hd+1 } (k::ws)).1):=by
 have hd:r.hd=p.part:=by rw [h.hd,if_pos (by omega)]
 have hod:=h.od (by omega)
 have d0:=h.d0
 have hrp:=h.rp
 rw [if_pos (by omega)] at hrp
 have hin:p.h=0∧r.left=0∧p.px=[]∧r.px=[]:=by
  rcases h.inn with h0 | ⟨_,_,_,_,_,i6,_,_⟩
  ·exact h0
  ·omega
 have hs:=h.s
 unfold zZO
 by_cases h0:p.part=0
 ·rw [if_pos h0,jV7]
  have hr1:({ r with hd:=r.hd+1 }:RP).hd=1:=by show r.hd+1=1; omega
  rcases ws with _ | ⟨a,_ | ⟨b,ws⟩⟩
  ·have e:zJx { r with hd:=r.hd+1 } [k]=({ r with hd:=r.hd+1 },false):=by unfold zJx; rw [if_pos hr1,if_neg (by simp)]
   rw [e]; simp [allP]
  ·by_cases hk:k=zYG
   ·subst hk
    have e:zJx { r with hd:=r.hd+1 } [zYG,a]=({ r with hd:=r.hd+1,s:={ r.s with bits:=(numR a 0 255).1 } },(numR a 0 255).2):=by unfold zJx; rw [if_pos hr1,if_pos ⟨rfl,rfl⟩]; rfl
    rw [e]
    have e2:(numR a 0 255).2=okN 0 255 a:=rfl
    rw [e2]
    refine ⟨by simp [allP],fun hh=>?_⟩
    have ha:okN 0 255 a=true:=by simpa [allP] using hh
    have ev:(byQ ⟨[a],false⟩).1=numV a:=by unfold byQ; rw [zZm ha]
    refine ⟨?_,by show 0≤p.part+1; omega,by show p.part+1≤5; omega,?_,?_,fun _=>hod,h.pt,.inl hin⟩
    ·show ({ p.s with bits:=(byQ ⟨[a],false⟩).1 }:Scr)={ r.s with bits:=(numR a 0 255).1 }
     rw [ev,jYX ha,hs]
    ·show r.hd+1=if p.part+1≤3 then p.part+1 else 3
     rw [if_pos (by omega)]; omega
    ·show r.part=if p.part+1≤3 then 0 else p.part+1 - 3
     rw [if_pos (by omega)]; exact hrp
   ·have e:zJx { r with hd:=r.hd+1 } [k,a]=({ r with hd:=r.hd+1 },false):=by unfold zJx; rw [if_pos hr1,if_neg (fun g=>hk g.2)]
    rw [e]; simp [hk]
  ·have e:zJx { r with hd:=r.hd+1 } (k::a::b::ws)=({ r with hd:=r.hd+1 },false):=by unfold zJx; rw [if_pos hr1,if_neg (by simp)]
   rw [e]; simp [allP]
 ·have hr1:¬({ r with hd:=r.hd+1 }:RP).hd=1:=by show ¬r.hd+1=1; omega
  rw [if_neg h0]
  by_cases h1:p.part=1
  ·rw [if_pos h1]
   have hr2:({ r with hd:=r.hd+1 }:RP).hd=2:=by show r.hd+1=2; omega
   simp only [jKY]
   have e:zJx { r with hd:=r.hd+1 } (k::ws)=(if (s32 ws).2=true∧(s32 ws).1.length=4∧k=zZL then ({ r with hd:=r.hd+1,s:={ r.s with c:=⟨iAt (s32 ws).1 0,iAt (s32 ws).1 1,iAt (s32 ws).1 2,iAt (s32 ws).1 3⟩ } },true) else ({ r with hd:=r.hd+1 },false)):=by unfold zJx; rw [if_neg hr1,if_pos hr2]; rfl
   rw [e]
   by_cases hA:allP [okN (-2147483648) 2147483647,okN (-2147483648) 2147483647,okN (-2147483648) 2147483647,okN (-2147483648) 2147483647] ws=true
   ·rcases ws with _ | ⟨a,_ | ⟨b,_ | ⟨c,_ | ⟨d,_ | ⟨f,ws⟩⟩⟩⟩⟩
    case cons.cons.cons.cons.nil=>
     simp only [allP,Bool.and_eq_true,and_true] at hA
     obtain ⟨a1,a2,a3,a4⟩:=hA
     have hall:[a,b,c,d].all (okN (-2147483648) 2147483647)=true:=by simp [a1,a2,a3,a4]
     have e3:s32 [a,b,c,d]=([numV a,numV b,numV c,numV d],true):=zYU hall
     rw [e3]
     by_cases hk:k=zZL
     ·rw [if_pos ⟨rfl,rfl,hk⟩]
      refine ⟨by simp [hk,allP,a1,a2,a3,a4],fun _=>⟨?_,by show 0≤p.part+1; omega,by show p.part+1≤5; omega,?_,?_,fun _=>hod,h.pt,.inl hin⟩⟩
      ·unfold plQ
       simp only [zZm a1,zZm a2,zZm a3,zZm a4,hs]; rfl
      ·show r.hd+1=if p.part+1≤3 then p.part+1 else 3
       rw [if_pos (by omega)]; omega
      ·show r.part=if p.part+1≤3 then 0 else p.part+1 - 3
       rw [if_pos (by omega)]; exact hrp
     ·rw [if_neg (fun g=>hk g.2.2)]; simp [hk]
    all_goals simp [allP] at hA
   ·have hA':allP [okN (-2147483648) 2147483647,okN (-2147483648) 2147483647,okN (-2147483648) 2147483647,okN (-2147483648) 2147483647] ws=false:=by simpa using hA
    have hno:¬((s32 ws).2=true∧(s32 ws).1.length=4∧k=zZL):=fun g=>by
     obtain ⟨g1,g2,_⟩:=g
     by_cases hall:ws.all (okN (-2147483648) 2147483647)=true
     ·have e3:s32 ws=(ws.map numV,true):=zYU hall
      rw [e3] at g2
      have g2:ws.length=4:=by simpa using g2
      match ws,g2 with
      | [a,b,c,d],_=>exact hA (by simpa [allP] using hall)
     ·have e3:s32 ws=([],false):=zKs (by simpa using hall)
      rw [e3] at g1; cases g1
    rw [if_neg hno,hA']
    simp
  ·rw [if_neg h1]
   have hr2:¬({ r with hd:=r.hd+1 }:RP).hd=2:=by show ¬r.hd+1=2; omega
   simp only [jV6]
   have e:zJx { r with hd:=r.hd+1 } (k::ws)=(if (u32 ws).2=true∧(u32 ws).1.length=2∧k=zXo then ({ r with hd:=r.hd+1,s:={ r.s with tw:=iAt (u32 ws).1 0,th:=iAt (u32 ws).1 1 } },true) else ({ r with hd:=r.hd+1 },false)):=by unfold zJx; rw [if_neg hr1,if_neg hr2]; rfl
   rw [e]
   by_cases hA:allP [okN 0 4294967295,okN 0 4294967295] ws=true
   ·rcases ws with _ | ⟨a,_ | ⟨b,_ | ⟨c,ws⟩⟩⟩
    case cons.cons.nil=>
     simp only [allP,Bool.and_eq_true,and_true] at hA
     obtain ⟨a1,a2⟩:=hA
     have hall:[a,b].all (okN 0 4294967295)=true:=by simp [a1,a2]
     have e3:u32 [a,b]=([numV a,numV b],true):=zYU hall
     rw [e3]
     by_cases hk:k=zXo
     ·rw [if_pos ⟨rfl,rfl,hk⟩]
      refine ⟨by simp [hk,allP,a1,a2],fun _=>⟨?_,by show 0≤p.part+1; omega,by show p.part+1≤5; omega,?_,?_,fun _=>hod,h.pt,.inl hin⟩⟩
      ·simp only [zZm a1,zZm a2,hs]; rfl
      ·show r.hd+1=if p.part+1≤3 then p.part+1 else 3
       rw [if_pos (by omega)]; omega
      ·show r.part=if p.part+1≤3 then 0 else p.part+1 - 3
       rw [if_pos (by omega)]; exact hrp
     ·rw [if_neg (fun g=>hk g.2.2)]; simp [hk]
    all_goals simp [allP] at hA
   ·have hA':allP [okN 0 4294967295,okN 0 4294967295] ws=false:=by simpa using hA
    have hno:¬((u32 ws).2=true∧(u32 ws).1.length=2∧k=zXo):=fun g=>by
     obtain ⟨g1,g2,_⟩:=g
     by_cases hall:ws.all (okN 0 4294967295)=true
     ·have e3:u32 ws=(ws.map numV,true):=zYU hall
      rw [e3] at g2
      have g2:ws.length=2:=by simpa using g2
      match ws,g2 with
      | [a,b],_=>exact hA (by simpa [allP] using hall)
     ·have e3:u32 ws=([],false):=zKs (by simpa using hall)
      rw [e3] at g1; cases g1
    rw [if_neg hno,hA']
    simp
theorem jW8 {ws:List Lb} (h:¬(2≤ws.length∧(ws.take 2).all (okN 1 16777216)=true)):(sizQ ⟨ws,false⟩).2.bad=true:=by
 have hb:(numQ (numQ ⟨ws,false⟩ 1 16777216).2 1 16777216).2.bad=true:=by
  obtain ⟨s1,s2⟩:=zZE 1 16777216
  rcases ws with _ | ⟨a,_ | ⟨b,r⟩⟩
  ·have e:(numQ ⟨[],false⟩ 1 16777216).2=⟨[],true⟩:=s2 false
   rw [e]
   have e:(numQ ⟨[],true⟩ 1 16777216).2=⟨[],true⟩:=s2 true
   rw [e]
  ·have e:(numQ ⟨[a],false⟩ 1 16777216).2=⟨[],false || !okN 1 16777216 a⟩:=s1 a [] false
   rw [e]
   have e:=s2 (false || !okN 1 16777216 a)
   simp only at e
   rw [e]
  ·have e:(numQ ⟨a::b::r,false⟩ 1 16777216).2=⟨b::r,false || !okN 1 16777216 a⟩:=s1 a (b::r) false
   rw [e]
   have e:=s1 b r (false || !okN 1 16777216 a)
   simp only at e
   rw [e]
   cases ha:okN 1 16777216 a with
   | false=>simp
   | true=>
    cases hbb:okN 1 16777216 b with
    | false=>simp
    | true=>exact absurd ⟨by simp,by simp [ha,hbb]⟩ h
 unfold sizQ
 simp only
 rw [if_pos (.inl hb)]
theorem jW7 {a b:Lb} {r:List Lb} (ha:okN 1 16777216 a=true) (hb:okN 1 16777216 b=true):sizQ ⟨a::b::r,false⟩=(if 16777216 / numV b < numV a then ((0,0),⟨r,true⟩) else ((numV a,numV b),⟨r,false⟩)):=by
 unfold sizQ
 simp only [zZm ha,zZm hb]
 simp
theorem jVq {q:LQ} (h:q.bad=true):cmpQ (pixQ q).2=false:=by
 obtain ⟨ws,b⟩:=q
 have hb:b=true:=h
 subst hb
 have:=zJG jZP ws true
 rw [Bool.not_true,Bool.false_and] at this
 exact this
theorem jVr {q:LQ} (h:q.bad=true):cmpQ q=false:=by unfold cmpQ; rw [h]; simp
theorem jWl {A B:Int} (ha:1≤A) (hb:1≤B):16777216 / B < A↔16777216 / A < B:=by
 have h1:=Int.ediv_lt_iff_lt_mul (a:=16777216) (b:=A) (c:=B) (by omega)
 have h2:=Int.ediv_lt_iff_lt_mul (a:=16777216) (b:=B) (c:=A) (by omega)
 rw [h1,h2,Int.mul_comm]
theorem jKj {p:PP} {r:RP} (h:Sim p r) (k:Lb) (ws:List Lb) (h3:3≤p.part) (h4:p.part≤4) (hk:k=zQ9∨k=zQ5) (hh:¬0 < p.h) :
  (zZj { p with part:=4 } ⟨ws,false⟩ k).2=(zYD r (k::ws)).2∧((zZj { p with part:=4 } ⟨ws,false⟩ k).2=true→Sim (zZj { p with part:=4 } ⟨ws,false⟩ k).1 (zYD r (k::ws)).1):=by
 have hs:=h.s
 have hrp:r.part=p.part - 3:=by
  rw [h.rp]; split <;> omega
 have hhd:r.hd=3:=by rw [h.hd]; split <;> omega
 have hin:p.h=0∧r.left=0∧p.px=[]∧r.px=[]:=by
  rcases h.inn with h0 | ⟨_,i2,_⟩
  ·exact h0
  ·omega
 obtain ⟨i1,i2,i3,i4⟩:=hin
 have hil:p.s.ims.length=r.s.ims.length:=by rw [hs]
 have fin:∀ X:PP × Bool,X.2=false→∀ Y:RP × Bool,Y.2=false→X.2=Y.2∧(X.2=true→Sim X.1 Y.1):=fun X hX Y hY=>⟨by rw [hX,hY],fun g=>by rw [hX] at g; cases g⟩
 by_cases hm:64≤p.s.ims.length
 ·exact fin _ (by unfold zZj; rw [if_pos hm]) _ (by unfold zYD; rw [if_pos (.inr (.inl (by omega)))])
 by_cases hA:2≤ws.length∧(ws.take 2).all (okN 1 16777216)=true
 ·obtain ⟨hA1,hA2⟩:=hA
  rcases ws with _ | ⟨a,_ | ⟨b,rest⟩⟩
  ·simp at hA1
  ·simp at hA1
  have hA2':[a,b].all (okN 1 16777216)=true:=hA2
  have hab:okN 1 16777216 a=true∧okN 1 16777216 b=true:=by simpa using hA2'
  have ia:=zH3 hab.1
  have ib:=zH3 hab.2
  have en:nz (k::a::b::rest)=([numV a,numV b],true):=zYU hA2'
  have j0:iAt [numV a,numV b] 0=numV a:=rfl
  have j1:iAt [numV a,numV b] 1=numV b:=rfl
  have w0:wAt (k::a::b::rest) 0=k:=rfl
  have hsw:=jWl ia.1 ib.1
  have hsz:=jW7 (r:=rest) hab.1 hab.2
  have g1:¬(1 < r.part∨64≤r.s.ims.length∨(k::a::b::rest).length < 3):=by simp; omega
  by_cases hv:16777216 / numV a < numV b
  ·rw [if_pos (hsw.2 hv)] at hsz
   refine fin _ ?_ _ (by unfold zYD; rw [if_neg g1,en,if_pos (.inr hv)])
   unfold zZj
   rw [if_neg hm,hsz]
   split
   ·exact jVr rfl
   ·exact jVq rfl
  ·rw [if_neg (fun g=>hv (hsw.1 g))] at hsz
   have g2:¬((([numV a,numV b],true):List Int × Bool).2=false∨16777216 / iAt (([numV a,numV b],true):List Int × Bool).1 0 < iAt (([numV a,numV b],true):List Int × Bool).1 1):=by
    rw [j0,j1]; intro g; rcases g with g | g
    ·cases g
    ·exact hv g
   rcases hk with hk | hk
   ·have hd3:(k::a::b::rest).drop 3=rest:=rfl
    obtain ⟨e1,e2⟩:=jYK rest
    have eP:zZj { p with part:=4 } ⟨a::b::rest,false⟩ k=({ p with part:=4,s:={ p.s with ims:=p.s.ims++[zQd (numV a) (numV b) (pixQ ⟨rest,false⟩).1] } },(pixW rest).2):=by
     unfold zZj
     rw [if_neg hm,if_neg (by rw [hk]; decide),hsz,e1]
    have eR:zYD r (k::a::b::rest)=({ r with part:=1,s:={ r.s with ims:=r.s.ims++[zQd (numV a) (numV b) (pixW rest).1] } },(pixW rest).2):=by
     unfold zYD
     rw [if_neg g1,en,if_neg g2,w0,if_pos hk,hd3,j0,j1]
    rw [eP,eR]
    refine ⟨rfl,fun hp=>⟨?_,by show (0:Int)≤4; decide,by show (4:Int)≤5; decide,?_,?_,fun g=>absurd (show (4:Int)≤3 from g) (by decide),h.pt,.inl ⟨i1,i2,i3,i4⟩⟩⟩
    ·rw [e2 hp,hs]
    ·show r.hd=if (4:Int)≤3 then 4 else 3
     rw [hhd]; rfl
    ·rfl
   ·have eP:zZj { p with part:=4 } ⟨a::b::rest,false⟩ k=({ p with part:=4,w:=numV a,h:=numV b },cmpQ ⟨rest,false⟩):=by
     unfold zZj
     rw [if_neg hm,if_pos hk,hsz]
    have eR:zYD r (k::a::b::rest)=({ r with part:=1,w:=numV a,h:=numV b,left:=numV a*numV b },decide ((k::a::b::rest).length=3)):=by
     unfold zYD
     rw [if_neg g1,en,if_neg g2,w0,if_neg (by rw [hk]; decide),j0,j1]
    rw [eP,eR]
    refine ⟨?_,fun hp=>⟨hs,by show (0:Int)≤4; decide,by show (4:Int)≤5; decide,?_,rfl,fun g=>absurd (show (4:Int)≤3 from g) (by decide),h.pt,.inr ⟨ia.1,ib.1,rfl,rfl,by rw [i3,i4],rfl,?_,?_⟩⟩⟩
    ·show cmpQ ⟨rest,false⟩=decide ((k::a::b::rest).length=3)
     cases rest <;> simp [cmpQ]
    ·show r.hd=if (4:Int)≤3 then 4 else 3
     rw [hhd]; rfl
    ·show numV a*numV b=numV a*numV b - (p.px.length:Int)
     rw [i3]; simp
    ·have:=Int.mul_pos (show 0 < numV a by omega) (show 0 < numV b by omega)
     exact this
 ·have hb:=jW8 hA
  refine fin _ ?_ _ ?_
  ·unfold zZj
   rw [if_neg hm]
   split
   ·exact jVr hb
   ·exact jVq hb
  ·by_cases hl:(k::ws).length < 3
   ·unfold zYD; rw [if_pos (.inr (.inr hl))]
   ·have hl2:2≤ws.length:=by simp at hl; omega
    have:nz (k::ws)=([],false):=zKs (by
     cases hx:((((k::ws).drop 1).take 2).all (okN 1 16777216)) with
     | false=>rfl
     | true=>exact absurd ⟨hl2,hx⟩ hA)
    unfold zYD; rw [if_neg (by omega),if_pos (.inl (by rw [this]))]
def pB:Lb→Bool:=okN 0 255
def pI:Lb→Bool:=okN (-2147483648) 2147483647
def pS:Lb→Bool:=okN 0 65535
def pT:Lb→Bool:=okN 0 1
def pO:Lb→Bool:=fun w=>(nmR zQj w).2
def pM:Lb→Bool:=fun w=>(nmR zQc w).2
theorem stB:Step (fun q=>(byQ q).2) pB:=zZE _ _
theorem stI:Step (fun q=>(plQ q).2) pI:=zZE _ _
theorem stS:Step (fun q=>(smQ q).2) pS:=zZE _ _
theorem stT:Step (fun q=>(trQ q).2) pT:=zZE _ _
theorem stO:Step (fun q=>(namQ zQj q).2) pO:=jY1 _
theorem stM:Step (fun q=>(namQ zQc q).2) pM:=jY1 _
def pD:List (Lb→Bool):=[pB,pI,pI,pB,pI,pI,pS,pO,pM]
def pP:List (Lb→Bool):=[pB,pI,pI,pS,pO,pM,pT,pT]
theorem jWj (ws:List Lb):cmpQ (zQT ⟨ws,false⟩).2=allP pD ws:=by
 have:=zJG (.cons stB (.cons stI (.cons stI (.cons stB (.cons stI (.cons stI (.cons stS (.cons stO (.cons stM .nil))))))))) ws false
 rw [Bool.not_false,Bool.true_and] at this
 exact this
theorem jVI (ws:List Lb):cmpQ (zQS ⟨ws,false⟩).2=allP pP ws:=by
 have:=zJG (.cons stB (.cons stI (.cons stI (.cons stS (.cons stO (.cons stM (.cons stT (.cons stT .nil)))))))) ws false
 rw [Bool.not_false,Bool.true_and] at this
 exact this
theorem jY0 {f:Int→ByteArray} {w:Lb} (h:(nmR f w).2=true):1≤(nmR f w).1∧(nmR f w).1 < 13:=by
 unfold nmR at h ⊢
 split at h
 ·rename_i j hj
  have:=List.mem_of_find?_eq_some hj
  simp at this
  simp only [hj]
  omega
 ·cases h
theorem jYR {a:Lb} (h:pS a=true):IntKind.wrap .u16 (numR a 0 65535).1=numV a:=by
 have:=zH3 h
 rw [jYX h]
 simp [IntKind.wrap,IntKind.bits,IntKind.signed]; omega
theorem jZc:∀ {Ps:List (Lb→Bool)} {ws:List Lb},allP Ps ws=true→ws.length=Ps.length
 | [],[],_=>rfl
 | P::Ps,w::ws,h=>by
  simp only [allP,Bool.and_eq_true] at h
  simp [jZc h.2]
 | [],_::_,h=>by cases h
 | _::_,[],h=>by cases h
theorem jVR {ws:List Lb} (h:ws.length≠9):(opR (zZ9::ws)).2=false:=by
 unfold opR
 split
 ·rename_i e; injection e with _ e; subst e; exact absurd rfl h
 ·rename_i e; injection e with e _; rw [if_neg (fun g=>absurd (e.trans g.1) (by decide))]
 ·rename_i e; injection e with e _; rw [if_neg (fun g=>absurd (e.trans g) (by decide))]
 ·rfl
theorem jVP {ws:List Lb} (h:ws.length≠8):(opR (zXi::ws)).2=false:=by
 unfold opR
 split
 ·rename_i e; injection e with e _; rw [if_neg (fun g=>absurd (e.trans g.1) (by decide))]
 ·rename_i e; injection e with _ e; subst e; exact absurd rfl h
 ·rename_i e; injection e with e _; rw [if_neg (fun g=>absurd (e.trans g) (by decide))]
 ·rfl
theorem jUk (ws:List Lb):opR (sPop::ws)=if ws=[] then (popO,true) else (opR (sPop::ws)).1 |> fun o=>(o,false):=by
 cases ws with
 | nil=>rfl
 | cons w ws=>
  rw [if_neg (by simp)]
  have:(opR (sPop::w::ws)).2=false:=by
   unfold opR
   split
   ·rename_i e; injection e with e _; rw [if_neg (fun g=>absurd (e.trans g.1) (by decide))]
   ·rename_i e; injection e with e _; rw [if_neg (fun g=>absurd (e.trans g.1) (by decide))]
   ·rename_i e; injection e with _ e; cases e
   ·rfl
  exact Prod.ext rfl this
theorem zGD {k:Lb} {ws:List Lb} (h1:k≠zZ9) (h2:k≠zXi) (h3:k≠sPop):(opR (k::ws)).2=false:=by
 unfold opR
 split
 ·rename_i e; injection e with e _; rw [if_neg (fun g=>h1 (e.trans g.1))]
 ·rename_i e; injection e with e _; rw [if_neg (fun g=>h2 (e.trans g.1))]
 ·rename_i e; injection e with e _; rw [if_neg (fun g=>h3 (e.trans g))]
 ·rfl
theorem jUM (ws:List Lb):allP pD ws=(opR (zZ9::ws)).2∧(allP pD ws=true→(zQT ⟨ws,false⟩).1=(opR (zZ9::ws)).1∧prtO (opR (zZ9::ws)).1=true):=by
 by_cases hl:ws.length=9
 ·match ws,hl with
  | [i,x,y,m,mx,my,a,b,c],_=>
  by_cases hC:zZ9=zZ9∧[i,m].all (okN 0 255)=true∧[x,y,mx,my].all (okN (-2147483648) 2147483647)=true
  ·have e:opR [zZ9,i,x,y,m,mx,my,a,b,c]=(zHr ⟨1,numV i,numV x,numV y,numV m,numV mx,numV my,0,0,0,false,false⟩ a b c,jZs a b c):=if_pos hC
   rw [e]
   obtain ⟨_,h1,h2⟩:=hC
   simp only [List.all_cons,List.all_nil,Bool.and_true,Bool.and_eq_true] at h1 h2
   have k1:pB i=true:=h1.1
   have k2:pB m=true:=h1.2
   have k3:pI x=true:=h2.1
   have k4:pI y=true:=h2.2.1
   have k5:pI mx=true:=h2.2.2.1
   have k6:pI my=true:=h2.2.2.2
   refine ⟨by simp [allP,pD,jZs,k1,k2,k3,k4,k5,k6,Bool.and_assoc]; rfl,fun hh=>?_⟩
   simp only [allP,pD,k1,k2,k3,k4,k5,k6,Bool.true_and,Bool.and_true,Bool.and_eq_true] at hh
   obtain ⟨k7,k8,k9⟩:=hh
   have v8:=jY0 (show (nmR zQj b).2=true from k8)
   have v9:=jY0 (show (nmR zQc c).2=true from k9)
   refine ⟨?_,?_⟩
   ·unfold zQT byQ plQ smQ
    simp only [zZm (show okN 0 255 i=true from k1),zZm (show okN (-2147483648) 2147483647 x=true from k3),zZm (show okN (-2147483648) 2147483647 y=true from k4),zZm (show okN 0 255 m=true from k2),zZm (show okN (-2147483648) 2147483647 mx=true from k5),zZm (show okN (-2147483648) 2147483647 my=true from k6),zZm (show okN 0 65535 a=true from k7),jQT (show (nmR zQj b).2=true from k8),jQT (show (nmR zQc c).2=true from k9)]
    unfold zHr
    rw [jYR k7]
   ·unfold prtO zHr
    simp
    omega
  ·have e:opR [zZ9,i,x,y,m,mx,my,a,b,c]=(nilO,false):=if_neg hC
   rw [e]
   have:allP pD [i,x,y,m,mx,my,a,b,c]=false:=by
    cases hA:allP pD [i,x,y,m,mx,my,a,b,c] with
    | false=>rfl
    | true=>
     simp only [allP,pD,Bool.and_eq_true] at hA
     obtain ⟨k1,k3,k4,k2,k5,k6,_⟩:=hA
     refine absurd ⟨rfl,?_,?_⟩ hC
     ·simp only [List.all_cons,List.all_nil,Bool.and_true,Bool.and_eq_true]; exact ⟨k1,k2⟩
     ·simp only [List.all_cons,List.all_nil,Bool.and_true,Bool.and_eq_true]; exact ⟨k3,k4,k5,k6⟩
   rw [this]
   exact ⟨rfl,fun h=>by cases h⟩
 ·have:allP pD ws=false:=by
   cases h:allP pD ws with
   | false=>rfl
   | true=>exact absurd (jZc h) hl
  rw [this,jVR hl]
  exact ⟨rfl,fun h=>by cases h⟩
theorem jUg (ws:List Lb):allP pP ws=(opR (zXi::ws)).2∧(allP pP ws=true→(zQS ⟨ws,false⟩).1=(opR (zXi::ws)).1∧prtO (opR (zXi::ws)).1=true):=by
 by_cases hl:ws.length=8
 ·match ws,hl with
  | [m,mx,my,a,b,c,is,kn],_=>
  by_cases hC:zXi=zXi∧okN 0 255 m=true∧[mx,my].all (okN (-2147483648) 2147483647)=true∧[is,kn].all (okN 0 1)=true
  ·have e:opR [zXi,m,mx,my,a,b,c,is,kn]=(zHr ⟨2,0,0,0,numV m,numV mx,numV my,0,0,0,decide (numV is=1),decide (numV kn=1)⟩ a b c,jZs a b c):=if_pos hC
   rw [e]
   obtain ⟨_,h0,h1,h2⟩:=hC
   simp only [List.all_cons,List.all_nil,Bool.and_true,Bool.and_eq_true] at h1 h2
   have k2:pB m=true:=h0
   have k5:pI mx=true:=h1.1
   have k6:pI my=true:=h1.2
   have t1:pT is=true:=h2.1
   have t2:pT kn=true:=h2.2
   refine ⟨by simp [allP,pP,jZs,k2,k5,k6,t1,t2,Bool.and_assoc]; rfl,fun hh=>?_⟩
   simp only [allP,pP,k2,k5,k6,t1,t2,Bool.true_and,Bool.and_true,Bool.and_eq_true] at hh
   obtain ⟨k7,k8,k9⟩:=hh
   have v8:=jY0 (show (nmR zQj b).2=true from k8)
   have v9:=jY0 (show (nmR zQc c).2=true from k9)
   refine ⟨?_,?_⟩
   ·unfold zQS trQ byQ plQ smQ
    simp only [zZm (show okN 0 255 m=true from k2),zZm (show okN (-2147483648) 2147483647 mx=true from k5),zZm (show okN (-2147483648) 2147483647 my=true from k6),zZm (show okN 0 65535 a=true from k7),jQT (show (nmR zQj b).2=true from k8),jQT (show (nmR zQc c).2=true from k9),zZm (show okN 0 1 is=true from t1),zZm (show okN 0 1 kn=true from t2)]
    unfold zHr
    rw [jYR k7]
   ·unfold prtO zHr
    simp
    omega
  ·have e:opR [zXi,m,mx,my,a,b,c,is,kn]=(nilO,false):=if_neg hC
   rw [e]
   have:allP pP [m,mx,my,a,b,c,is,kn]=false:=by
    cases hA:allP pP [m,mx,my,a,b,c,is,kn] with
    | false=>rfl
    | true=>
     simp only [allP,pP,Bool.and_eq_true] at hA
     obtain ⟨k2,k5,k6,_,_,_,t1,t2,_⟩:=hA
     refine absurd ⟨rfl,k2,?_,?_⟩ hC
     ·simp only [List.all_cons,List.all_nil,Bool.and_true,Bool.and_eq_true]; exact ⟨k5,k6⟩
     ·simp only [List.all_cons,List.all_nil,Bool.and_true,Bool.and_eq_true]; exact ⟨t1,t2⟩
   rw [this]
   exact ⟨rfl,fun h=>by cases h⟩
 ·have:allP pP ws=false:=by
   cases h:allP pP ws with
   | false=>rfl
   | true=>exact absurd (jZc h) hl
  rw [this,jVP hl]
  exact ⟨rfl,fun h=>by cases h⟩
theorem jKi {p:PP} {r:RP} (h:Sim p r) (k:Lb) (ws:List Lb) (h3:3≤p.part) (hh:¬0 < p.h) :
  (pOp { p with part:=5 } ⟨ws,false⟩ k).2=((opR (k::ws)).2 && decide (r.s.ops.length < 4096)) ∧
   ((pOp { p with part:=5 } ⟨ws,false⟩ k).2=true→Sim (pOp { p with part:=5 } ⟨ws,false⟩ k).1 { r with part:=2,s:={ r.s with ops:=r.s.ops++[(opR (k::ws)).1] } }):=by
 have hs:=h.s
 have hhd:r.hd=3:=by rw [h.hd]; split <;> omega
 have hin:p.h=0∧r.left=0∧p.px=[]∧r.px=[]:=by
  rcases h.inn with h0 | ⟨_,i2,_⟩
  ·exact h0
  ·omega
 have hol:p.s.ops.length=r.s.ops.length:=by rw [hs]
 have fin:∀ o:Oq,prtO o=true→o=(opR (k::ws)).1→Sim { p with part:=5,s:={ p.s with ops:=p.s.ops++[o] } } { r with part:=2,s:={ r.s with ops:=r.s.ops++[(opR (k::ws)).1] } }:=fun o ho e=>
  ⟨by rw [e,hs],by show (0:Int)≤5; decide,by show (5:Int)≤5; decide,by show r.hd=if (5:Int)≤3 then 5 else 3; rw [hhd]; rfl,rfl,fun g=>absurd (show (5:Int)≤3 from g) (by decide),fun x hx=>by
   rcases List.mem_append.1 hx with hx | hx
   ·exact h.pt x hx
   ·rw [List.mem_singleton.1 hx]; exact ho,.inl hin⟩
 by_cases hm:4096≤p.s.ops.length
 ·have eP:pOp { p with part:=5 } ⟨ws,false⟩ k=({ p with part:=5 },false):=by unfold pOp; rw [if_pos hm]
  rw [eP,decide_eq_false (by omega),Bool.and_false]
  exact ⟨rfl,fun h=>by cases h⟩
 rw [decide_eq_true (by omega:r.s.ops.length < 4096),Bool.and_true]
 by_cases hd:k=zZ9
 ·subst hd
  obtain ⟨e1,e2⟩:=jUM ws
  have eP:pOp { p with part:=5 } ⟨ws,false⟩ zZ9=({ p with part:=5,s:={ p.s with ops:=p.s.ops++[(zQT ⟨ws,false⟩).1] } },allP pD ws):=by unfold pOp; rw [if_neg hm,if_pos rfl,jWj]
  rw [eP]
  exact ⟨e1,fun hh=>fin _ (by rw [(e2 hh).1]; exact (e2 hh).2) (e2 hh).1⟩
 by_cases hp:k=zXi
 ·subst hp
  obtain ⟨e1,e2⟩:=jUg ws
  have eP:pOp { p with part:=5 } ⟨ws,false⟩ zXi=({ p with part:=5,s:={ p.s with ops:=p.s.ops++[(zQS ⟨ws,false⟩).1] } },allP pP ws):=by unfold pOp; rw [if_neg hm,if_neg hd,if_pos rfl,jVI]
  rw [eP]
  exact ⟨e1,fun hh=>fin _ (by rw [(e2 hh).1]; exact (e2 hh).2) (e2 hh).1⟩
 by_cases ho:k=sPop
 ·subst ho
  have eP:pOp { p with part:=5 } ⟨ws,false⟩ sPop=({ p with part:=5,s:={ p.s with ops:=p.s.ops++[popO] } },cmpQ ⟨ws,false⟩):=by unfold pOp; rw [if_neg hm,if_neg hd,if_neg hp,if_pos rfl]; rfl
  rw [eP]
  cases ws with
  | nil=>exact ⟨rfl,fun _=>fin _ (by decide) rfl⟩
  | cons w ws=>
   have e:=jUk (w::ws)
   rw [if_neg (by simp)] at e
   rw [e]
   exact ⟨rfl,fun h=>by cases h⟩
 ·have eP:pOp { p with part:=5 } ⟨ws,false⟩ k=({ p with part:=5 },false):=by unfold pOp; rw [if_neg hm,if_neg hd,if_neg hp,if_neg ho]
  rw [eP,zGD hd hp ho]
  exact ⟨rfl,fun h=>by cases h⟩
theorem jVx {p:PP} {r:RP} (h:Sim p r) (t:Lb):(zZY p t).2=(zJj r t).2∧((zZY p t).2=true→Sim (zZY p t).1 (zJj r t).1):=by
 have hne:=jZu t
 by_cases hh:0 < p.h
 ·have hl:0 < r.left:=by
   rcases h.inn with ⟨h0,_⟩ | ⟨_,_,_,_,_,_,_,i8⟩
   ·omega
   ·exact i8
  have eP:zZY p t=zQJ p ⟨zQp t,false⟩:=by unfold zZY; rw [if_pos hh]
  have eR:zJj r t=(if r.left=1 then ({ r with left:=0,s:={ r.s with ims:=r.s.ims++[imOf r.w r.h (r.px++[(pixW (zQp t)).1])] },px:=[] },(pixW (zQp t)).2)
   else ({ r with left:=r.left - 1,px:=r.px++[(pixW (zQp t)).1] },(pixW (zQp t)).2)):=by unfold zJj; rw [if_pos hl]
  rw [eP,eR]
  exact jKh h (zQp t) hh
 ·have hl:¬0 < r.left:=by
   rcases h.inn with ⟨_,h0,_⟩ | ⟨_,i2,_⟩
   ·omega
   ·omega
  obtain ⟨k,ws,hw⟩:∃ k ws,zQp t=k::ws:=by
   cases e:zQp t with
   | nil=>exact absurd e hne
   | cons k ws=>exact ⟨k,ws,rfl⟩
  have d0:=h.d0
  have d5:=h.d5
  have hq:zQ1 ⟨k::ws,false⟩=⟨ws,false⟩:=rfl
  have hk:zQ6 (k::ws)=k:=rfl
  have w0:wAt (k::ws) 0=k:=rfl
  have eP:zZY p t=(if p.part≤2 then zZO p ⟨ws,false⟩ k
   else if k=zZD∧p.part=3 then zZr { p with part:=4 } t
   else if (k=zQ9∨k=zQ5)∧p.part≤4 then zZj { p with part:=4 } ⟨ws,false⟩ k
   else pOp { p with part:=5 } ⟨ws,false⟩ k):=by unfold zZY; rw [if_neg hh,hw]; rfl
  have eR:zJj r t=(if r.hd < 3 then zJx { r with hd:=r.hd+1 } (k::ws)
   else if k=zZD then ({ r with part:=1,s:={ r.s with ord:=(u32 ws).1 } },(u32 ws).2 && decide (0 < (u32 ws).1.length) && decide (r.part=0))
   else if k=zQ9∨k=zQ5 then zYD r (k::ws)
   else ({ r with part:=2,s:={ r.s with ops:=r.s.ops++[(opR (k::ws)).1] } },(opR (k::ws)).2 && decide (r.s.ops.length < 4096))):=by unfold zJj; rw [if_neg hl,hw]; rfl
  have hhd:=h.hd
  have hrp:=h.rp
  by_cases h2:p.part≤2
  ·rw [if_pos (by omega)] at hhd
   rw [eP,eR,if_pos h2,if_pos (by omega)]
   exact jVy h k ws h2
  ·have hr3:r.hd=3:=by rw [hhd]; split <;> omega
   rw [if_neg h2] at eP
   rw [if_neg (by omega)] at eR
   by_cases ho:k=zZD
   ·rw [if_pos ho] at eR
    by_cases h3:p.part=3
    ·rw [if_pos ⟨ho,h3⟩] at eP
     rw [if_pos (by omega)] at hrp
     have hod:=h.od (by omega)
     rw [eP,eR]
     unfold zZr
     rw [hw,show (k::ws).drop 1=ws from rfl]
     by_cases ha:ws.all (okN 0 4294967295)=true
     ·have e3:u32 ws=(ws.map numV,true):=zYU ha
      rw [e3,ha,hrp]
      refine ⟨by simp,fun _=>⟨?_,by show (0:Int)≤4; decide,by show (4:Int)≤5; decide,?_,rfl,fun g=>absurd (show (4:Int)≤3 from g) (by decide),h.pt,?_⟩⟩
      ·show ({ p.s with ord:=p.s.ord++zWr ws }:Scr)={ r.s with ord:=ws.map numV }
       rw [hod,jYN ha,h.s]; rfl
      ·show r.hd=if (4:Int)≤3 then 4 else 3
       rw [hr3]; rfl
      ·rcases h.inn with h0 | ⟨_,i2,_⟩
       ·exact .inl h0
       ·omega
     ·have ha':ws.all (okN 0 4294967295)=false:=by simpa using ha
      have e3:u32 ws=([],false):=zKs ha'
      rw [e3,ha']
      refine ⟨by simp,fun g=>?_⟩
      simp at g
    ·rw [if_neg (fun g=>h3 g.2),if_neg (fun g=>by rw [ho] at g; exact absurd g.1 (by decide))] at eP
     have e:=(jKi h k ws (by omega) hh).1
     rw [zGD (by rw [ho]; decide) (by rw [ho]; decide) (by rw [ho]; decide),Bool.false_and] at e
     rw [eP,eR,e]
     have e0:decide (r.part=0)=false:=decide_eq_false (by rw [hrp]; split <;> omega)
     refine ⟨?_,fun g=>by cases g⟩
     show false=((u32 ws).2 && decide (0 < (u32 ws).1.length) && decide (r.part=0))
     rw [e0,Bool.and_false]
   ·rw [if_neg ho] at eR
    rw [if_neg (fun g=>ho g.1)] at eP
    by_cases hi:k=zQ9∨k=zQ5
    ·rw [if_pos hi] at eR
     by_cases h4:p.part≤4
     ·rw [if_pos ⟨hi,h4⟩] at eP
      rw [eP,eR]
      exact jKj h k ws (by omega) h4 hi hh
     ·rw [if_neg (fun g=>h4 g.2)] at eP
      have e:=(jKi h k ws (by omega) hh).1
      rw [zGD (by rcases hi with hi | hi <;> rw [hi] <;> decide) (by rcases hi with hi | hi <;> rw [hi] <;> decide) (by rcases hi with hi | hi <;> rw [hi] <;> decide),Bool.false_and] at e
      rw [eP,eR,e]
      refine ⟨?_,fun g=>by cases g⟩
      have:1 < r.part:=by rw [hrp]; split <;> omega
      unfold zYD; rw [if_pos (.inl this)]
    ·rw [if_neg hi] at eR
     rw [if_neg (fun g=>hi g.1)] at eP
     rw [eP,eR]
     exact jKi h k ws (by omega) hh
theorem jKk:∀ (t acc:Lb) (n:Int) {p:PP} {r:RP},Sim p r→pGo p n acc t=rGo r n acc t
 | [],acc,n,p,r,h=>by
  rw [pGo,rGo]
  have hhd:=h.hd
  by_cases ha:acc≠[]
  ·have c1:acc≠[]∨r.hd < 3∨0 < r.left:=.inl ha
   rw [if_pos ha,if_pos c1]
  ·rw [if_neg ha]
   unfold pEnd
   have hl:0 < p.h↔0 < r.left:=by
    rcases h.inn with ⟨i1,i2,_⟩ | ⟨_,i2,_,_,_,_,_,i8⟩
    ·omega
    ·exact ⟨fun _=>i8,fun _=>by omega⟩
   have hd:p.part≤2↔r.hd < 3:=by
    rw [hhd]; split <;> omega
   by_cases hc:p.part≤2∨0 < p.h
   ·have c1:acc≠[]∨r.hd < 3∨0 < r.left:=.inr (hc.imp hd.1 hl.1)
    rw [if_pos hc,if_pos c1]
   ·have c1:¬(acc≠[]∨r.hd < 3∨0 < r.left):=fun g=>hc ((g.resolve_left ha).imp hd.2 hl.2)
    rw [if_neg hc,if_neg c1]
    have hpt:p.s.ops.all prtO=true:=List.all_eq_true.2 h.pt
    rw [h.s] at hpt ⊢
    by_cases he:zXc r.s=true
    ·rw [if_pos ⟨he,hpt⟩,if_pos he]
    ·rw [if_neg (fun g=>he g.1),if_neg he]
 | c::t,acc,n,p,r,h=>by
  rw [pGo,rGo]
  obtain ⟨e1,e2⟩:=jVx h acc
  by_cases hc:c=10
  ·rw [if_pos hc,if_pos hc,← e1]
   by_cases hg:(zZY p acc).2=true
   ·rw [if_pos hg,if_pos hg]
    exact jKk t [] (n+1) (e2 hg)
   ·rw [if_neg hg,if_neg hg]
  ·rw [if_neg hc,if_neg hc]
   exact jKk t (acc++[c]) n h
theorem jYM (t:Lb):zQD t=jZO t:=jKk t [] 0 jKg
def zXJ (w:Lb):Prop:=(32:UInt8) ∉ w∧(10:UInt8) ∉ w
theorem zGd:∀ {w:Lb},(32:UInt8) ∉ w→zQp w=[w]
 | [],_=>rfl
 | c::w,h=>by
  simp only [List.mem_cons,not_or] at h
  rw [zQp,if_neg (fun e=>h.1 e.symm),zGd h.2]; rfl
theorem jYA:∀ {w r:Lb},(32:UInt8) ∉ w→zQp (w++32::r)=w::zQp r
 | [],r,_=>by rw [List.nil_append,zQp,if_pos rfl]
 | c::w,r,h=>by
  simp only [List.mem_cons,not_or] at h
  rw [List.cons_append,zQp,if_neg (fun e=>h.1 e.symm),jYA h.2]; rfl
theorem jYB:∀ (ws:List Lb) (w:Lb),zXJ w→(∀ x∈ws,zXJ x)→zQp (w++jt ws)=w::ws
 | [],w,h,_=>by rw [show jt []=[] from rfl,List.append_nil]; exact zGd h.1
 | x::ws,w,h,hs=>by
  rw [jX8,List.cons_append,jYA h.1,jYB ws x (hs x (by simp)) fun y hy=>hs y (by simp [hy])]
theorem zXn {ws:List Lb} (h:ws≠[]) (hs:∀ x∈ws,zXJ x):zQp (zZd ws)=ws:=by
 cases ws with
 | nil=>exact absurd rfl h
 | cons w ws=>rw [zK5]; exact jYB ws w (hs w (by simp)) fun y hy=>hs y (by simp [hy])
theorem jU9:∀ {ws:List Lb},(∀ x∈ws,zXJ x)→(10:UInt8) ∉ jt ws
 | [],_,h=>by cases h
 | x::ws,hs,h=>by
  rw [jX8] at h
  rcases List.mem_append.1 h with h | h
  ·rcases List.mem_cons.1 h with h | h
   ·exact absurd h (by decide)
   ·exact (hs x (by simp)).2 h
  ·exact jU9 (fun y hy=>hs y (by simp [hy])) h
theorem jUu {ws:List Lb} (hs:∀ x∈ws,zXJ x):(10:UInt8) ∉ zZd ws:=by
 cases ws with
 | nil=>intro h; cases h
 | cons w ws=>
  rw [zK5]
  intro h
  rcases List.mem_append.1 h with h | h
  ·exact (hs w (by simp)).2 h
  ·exact jU9 (fun y hy=>hs y (by simp [hy])) h
theorem jWQ {c:UInt8} (h:zKy c=true):c≠32∧c≠10:=by
 constructor <;> (rintro rfl; revert h; decide)
theorem jJP (v:Int):zXJ (itoa v):=by
 have hd:=(zU7 v.natAbs).2.1
 rw [List.all_eq_true] at hd
 have key:∀ c∈itoa v,c≠32∧c≠10:=fun c hc=>by
  by_cases hn:zWy (itoa v)=true
  ·rw [jKK hn,(zKx v).1] at hc
   rcases List.mem_cons.1 hc with rfl | hc
   ·exact ⟨by decide,by decide⟩
   ·exact jWQ (hd c hc)
  ·have e:=jYH (by simpa using hn)
   rw [← e,(zKx v).1] at hc
   exact jWQ (hd c hc)
 exact ⟨fun h=>(key _ h).1 rfl,fun h=>(key _ h).2 rfl⟩
theorem jKM:∀ k u:Nat,u < 10 ^ (k+1)→nDigits u≤k+1
 | 0,u,h=>by rw [nDigits_small (by simpa using h)]; exact Nat.le_refl _
 | k+1,u,h=>by
  by_cases hu:u < 10
  ·rw [nDigits_small hu]; omega
  ·rw [nDigits_big hu]
   have e:10 ^ (k+1+1)=10*10 ^ (k+1):=by rw [Nat.pow_succ,Nat.mul_comm]
   have:=jKM k (u / 10) (by omega)
   omega
theorem zU3 {v:Int} (h0 : -9999999999≤v) (h1:v≤9999999999):zY6 (itoa v)=true∧numV (itoa v)=v:=by
 refine jQb ?_
 rw [(zKx v).1,decDigits_length]
 exact jKM 9 _ (by omega)
theorem zXT {lo hi v:Int} (h0:lo≤v) (h1:v≤hi) (hl : -9999999999≤lo) (hh:hi≤9999999999):okN lo hi (itoa v)=true:=by
 have:=zU3 (v:=v) (by omega) (by omega)
 unfold okN; rw [this.1,this.2]; simp [h0,h1]
theorem jZT {lo hi v:Int} (h0:lo≤v) (h1:v≤hi) (hl : -9999999999≤lo) (hh:hi≤9999999999):numR (itoa v) lo hi=(v,true):=by
 have:=zU3 (v:=v) (by omega) (by omega)
 rw [jUn this.1,this.2]; simp [h0,h1]
theorem zKr {lo hi:Int} {l:List Int} (h:∀ v∈l,lo≤v∧v≤hi) (hl : -9999999999≤lo) (hh:hi≤9999999999):jQR (digW l) lo hi=(l,true):=by
 rw [zYU,show (digW l).map numV=l from ?_]
 ·unfold digW
  rw [List.map_map]
  conv=>rhs; rw [← List.map_id l]
  exact List.map_congr_left fun v hv=>(zU3 (by have:=h v hv; omega) (by have:=h v hv; omega)).2
 ·unfold digW
  rw [List.all_map,List.all_eq_true]
  exact fun v hv=>zXT (h v hv).1 (h v hv).2 hl hh
theorem zXC (l:List Int):∀ x∈digW l,zXJ x:=fun x hx=>by
 obtain ⟨v,_,rfl⟩:=List.mem_map.1 hx
 exact jJP v
theorem clean_of {w:Lb} (h:w.all (fun c=>decide (c≠32) && decide (c≠10))=true):zXJ w:=by
 rw [List.all_eq_true] at h
 exact ⟨fun g=>by simpa using h _ g,fun g=>by simpa using h _ g⟩
theorem jU6:∀ k:Fin 12,(ofS (zQj ((k.val:Int)+1))).all (fun c=>decide (c≠32) && decide (c≠10))=true∧nmR zQj (ofS (zQj ((k.val:Int)+1)))=((k.val:Int)+1,true):=by decide +kernel
theorem jV0:∀ k:Fin 12,(ofS (zQc ((k.val:Int)+1))).all (fun c=>decide (c≠32) && decide (c≠10))=true∧nmR zQc (ofS (zQc ((k.val:Int)+1)))=((k.val:Int)+1,true):=by decide +kernel
theorem jWG {v:Int} (h:1≤v∧v < 13):zXJ (ofS (zQj v))∧nmR zQj (ofS (zQj v))=(v,true):=by
 have:=jU6 ⟨(v - 1).toNat,by omega⟩
 rw [show (((⟨(v - 1).toNat,by omega⟩:Fin 12).val:Int)+1)=v from by show (((v - 1).toNat:Nat):Int)+1=v; omega] at this
 exact ⟨clean_of this.1,this.2⟩
theorem jY2 {v:Int} (h:1≤v∧v < 13):zXJ (ofS (zQc v))∧nmR zQc (ofS (zQc v))=(v,true):=by
 have:=jV0 ⟨(v - 1).toNat,by omega⟩
 rw [show (((⟨(v - 1).toNat,by omega⟩:Fin 12).val:Int)+1)=v from by show (((v - 1).toNat:Nat):Int)+1=v; omega] at this
 exact ⟨clean_of this.1,this.2⟩
def nl (t:Lb):Nat:=t.count 10
theorem jWH (a b:Lb):nl (a++b)=nl a+nl b:=List.count_append
theorem jWC {p:RP} {n:Int} {b:Lb}:∀ {a acc:Lb},(10:UInt8) ∉ a→rGo p n acc (a++10::b)=if (zJj p (acc++a)).2=true then rGo (zJj p (acc++a)).1 (n+1) [] b else (zScr,n+1,19)
 | [],acc,_=>by rw [List.append_nil,List.nil_append,rGo,if_pos rfl]
 | c::a,acc,h=>by
  simp only [List.mem_cons,not_or] at h
  rw [List.cons_append,rGo,if_neg (fun e=>h.1 e.symm),jWC h.2,List.append_assoc]; rfl
def Rd_ (p:RP) (t:Lb) (q:RP):Prop:=∀ (n:Int) (rest:Lb),rGo p n [] (t++rest)=rGo q (n+(nl t:Nat)) [] rest
theorem Rd_.nil (p:RP):Rd_ p [] p:=fun n rest=>by
 rw [List.nil_append,show (n+((nl []:Nat):Int))=n from Int.add_zero n]
theorem Rd_.app {p q r:RP} {a b:Lb} (h1:Rd_ p a q) (h2:Rd_ q b r):Rd_ p (a++b) r:=fun n rest=>by
 rw [List.append_assoc,h1,h2,jWH]
 congr 1
 omega
theorem Rd_.line {p q:RP} {ws:List Lb} (hs:∀ x∈ws,zXJ x) (h:zJj p (zZd ws)=(q,true)):Rd_ p (zQ4 ws) q:=fun n rest=>by
 have hn:=jUu hs
 unfold zQ4
 rw [List.append_assoc,show [10]++rest=10::rest from rfl,jWC hn,List.nil_append,h,if_pos rfl,jWH]
 have:nl (zZd ws)=0:=List.count_eq_zero.2 hn
 rw [this]
 rfl
theorem jUY:zQ9≠zZD:=by decide
theorem jUd {s:Scr} (P:Prt s):Rd_ zRP (hdTx s) ⟨⟨s.bits,s.c,s.tw,s.th,[],[],[]⟩,3,0,0,0,0,[]⟩:=by
 have cl:∀ (w:Lb) (l:List Int),zXJ w→∀ x∈[w]++digW l,zXJ x:=fun w l h x hx=>by
  rcases List.mem_append.1 hx with hx | hx
  ·rw [List.mem_singleton.1 hx]; exact h
  ·exact zXC l x hx
 have h1:Rd_ zRP (zQ3 zYG [s.bits]++[10]) ⟨⟨s.bits,⟨0,0,0,0⟩,0,0,[],[],[]⟩,1,0,0,0,0,[]⟩:=by
  rw [← zZN _ _ (by decide)]
  have c1:=cl zYG [s.bits] (clean_of (by decide))
  refine Rd_.line c1 ?_
  unfold zJj
  rw [zXn (by simp) c1,if_neg (show ¬(0 < zRP.left) from by decide),if_pos (show (zRP.hd < 3) from by decide)]
  have n1:=jZT (lo:=0) (hi:=255) P.bits.1 P.bits.2 (by decide) (by decide)
  unfold zJx
  rw [if_pos (show (zRP.hd+1=1) from rfl),if_pos (show (([zYG]++digW [s.bits]).length=2∧wAt ([zYG]++digW [s.bits]) 0=zYG) from ⟨rfl,rfl⟩)]
  show (({ zRP with hd:=0+1,s:={ zScr with bits:=(numR (itoa s.bits) 0 255).1 } }:RP),(numR (itoa s.bits) 0 255).2)=_
  rw [n1]; rfl
 have h2:Rd_ ⟨⟨s.bits,⟨0,0,0,0⟩,0,0,[],[],[]⟩,1,0,0,0,0,[]⟩ (zQ3 zZL [s.c.a,s.c.b,s.c.c,s.c.d]++[10]) ⟨⟨s.bits,s.c,0,0,[],[],[]⟩,2,0,0,0,0,[]⟩:=by
  rw [← zZN _ _ (by decide)]
  have c1:=cl zZL [s.c.a,s.c.b,s.c.c,s.c.d] (clean_of (by decide))
  refine Rd_.line c1 ?_
  unfold zJj
  rw [zXn (by simp) c1,if_neg (show ¬((0:Int) < 0) from by decide),if_pos (show ((1:Int) < 3) from by decide)]
  obtain ⟨p1,p2,p3,p4⟩:=P.c
  have n1:s32 (([zZL]++digW [s.c.a,s.c.b,s.c.c,s.c.d]).drop 1)=([s.c.a,s.c.b,s.c.c,s.c.d],true):=zKr (by simp; omega) (by decide) (by decide)
  unfold zJx
  rw [n1,if_neg (show ¬((1:Int)+1=1) from by decide),if_pos (show ((1:Int)+1=2) from rfl),if_pos ⟨rfl,rfl,rfl⟩]
  rfl
 have h3:Rd_ ⟨⟨s.bits,s.c,0,0,[],[],[]⟩,2,0,0,0,0,[]⟩ (zQ3 zXo [s.tw,s.th]++[10]) ⟨⟨s.bits,s.c,s.tw,s.th,[],[],[]⟩,3,0,0,0,0,[]⟩:=by
  rw [← zZN _ _ (by decide)]
  have c1:=cl zXo [s.tw,s.th] (clean_of (by decide))
  refine Rd_.line c1 ?_
  unfold zJj
  rw [zXn (by simp) c1,if_neg (show ¬((0:Int) < 0) from by decide),if_pos (show ((2:Int) < 3) from by decide)]
  have p1:=P.t
  have n1:u32 (([zXo]++digW [s.tw,s.th]).drop 1)=([s.tw,s.th],true):=zKr (by simp; omega) (by decide) (by decide)
  unfold zJx
  rw [n1,if_neg (show ¬((2:Int)+1=1) from by decide),if_neg (show ¬((2:Int)+1=2) from by decide),if_pos ⟨rfl,rfl,rfl⟩]
  rfl
 have:=(h1.app h2).app h3
 unfold hdTx
 simpa only [List.append_assoc] using this
structure At (p:RP) (x:Scr) (m:Int):Prop where
  s:p.s=x
  hd:p.hd=3
  left:p.left=0
  px:p.px=[]
  part:p.part≤m
theorem jVF {s:Scr} (P:Prt s):∃ q,Rd_ ⟨⟨s.bits,s.c,s.tw,s.th,[],[],[]⟩,3,0,0,0,0,[]⟩ (orTx s) q∧At q ⟨s.bits,s.c,s.tw,s.th,s.ord,[],[]⟩ 1:=by
 unfold orTx
 by_cases h:0 < s.ord.length
 ·rw [if_pos h,← zZN _ _ (by decide)]
  have c1:∀ x∈[zZD]++digW s.ord,zXJ x:=fun x hx=>by
   rcases List.mem_append.1 hx with hx | hx
   ·rw [List.mem_singleton.1 hx]; exact clean_of (by decide)
   ·exact zXC _ x hx
  refine ⟨⟨⟨s.bits,s.c,s.tw,s.th,s.ord,[],[]⟩,3,1,0,0,0,[]⟩,Rd_.line c1 ?_,rfl,rfl,rfl,rfl,by show (1:Int)≤1; decide⟩
  have n1:u32 (([zZD]++digW s.ord).drop 1)=(s.ord,true):=zKr P.o (by decide) (by decide)
  unfold zJj
  rw [zXn (by simp) c1,if_neg (show ¬((0:Int) < 0) from by decide),if_neg (show ¬((3:Int) < 3) from by decide),n1]
  rw [if_pos (show wAt ([zZD]++digW s.ord) 0=zZD from rfl)]
  simp [h]
 ·have h0:s.ord=[]:=List.length_eq_zero_iff.1 (by omega)
  rw [if_neg h,h0]
  exact ⟨_,Rd_.nil _,rfl,rfl,rfl,rfl,by show (0:Int)≤1; decide⟩
theorem jQE {p:Px} (h:pxIn p):pixW (digW (smpP p))=(p,true):=by
 obtain ⟨h1,h2,h3,h4,h5⟩:=h
 have n1:jQR (digW (smpP p)) 0 65535=(smpP p,true):=zKr (by unfold smpP; simp; omega) (by decide) (by decide)
 have ha:(digW (smpP p)).all (okN 0 65535)=true:=by
  cases g:(digW (smpP p)).all (okN 0 65535) with
  | true=>rfl
  | false=>rw [zKs g] at n1; cases n1
 rw [zYU ha] at n1
 have e:(digW (smpP p)).map numV=smpP p:=congrArg Prod.fst n1
 unfold pixW
 rw [if_pos ha,e]
 rfl
theorem jYJ (p:Px):(∀ x∈digW (smpP p),zXJ x)∧zQp (zZd (digW (smpP p)))=digW (smpP p):=
 ⟨zXC _,zXn (by simp [digW,smpP]) (zXC _)⟩
theorem jZM:∀ (l:List Px) (p:RP),l≠[]→(∀ x∈l,pxIn x)→p.left=l.length →
  Rd_ p (l.flatMap pxTx) { p with left:=0,s:={ p.s with ims:=p.s.ims++[imOf p.w p.h (p.px++l)] },px:=[] }
 | [],_,h,_,_=>absurd rfl h
 | [a],p,_,hI,hl=>by
  have hl:p.left=1:=by simpa using hl
  rw [List.flatMap_cons,List.flatMap_nil,List.append_nil,← zGN]
  refine Rd_.line (jYJ a).1 ?_
  unfold zJj
  rw [(jYJ a).2,jQE (hI a (by simp)),if_pos (by omega),if_pos hl]
 | a::b::l,p,_,hI,hl=>by
  rw [List.flatMap_cons]
  have hl:p.left=(l.length:Int)+2:=by rw [hl]; simp; omega
  have h1:Rd_ p (pxTx a) { p with left:=p.left - 1,px:=p.px++[a] }:=by
   rw [← zGN]
   refine Rd_.line (jYJ a).1 ?_
   unfold zJj
   rw [(jYJ a).2,jQE (hI a (by simp)),if_pos (by omega),if_neg (by omega)]
  refine h1.app ?_
  have h2:=jZM (b::l) { p with left:=p.left - 1,px:=p.px++[a] } (by simp) (fun x hx=>hI x (by simp [hx])) (by show p.left - 1=_; rw [hl]; simp; omega)
  have e:(p.px++[a])++(b::l)=p.px++(a::b::l):=by simp
  rw [show ({ p with left:=p.left - 1,px:=p.px++[a] }:RP).px++(b::l)=p.px++(a::b::l) from e] at h2
  exact h2
theorem jU7 {m:Im} (h:m.formed=true) (k:Lb) (l:List Lb):nz ([k]++digW [m.w,m.h]++l)=([m.w,m.h],true)∧¬16777216 / m.w < m.h:=by
 have hw:=Im.wh h
 have hs:=sizeIm_le' h
 refine ⟨zKr (l:=[m.w,m.h]) (by simp; omega) (by decide) (by decide),?_⟩
 have:=(Int.le_ediv_iff_mul_le (a:=m.h) (b:=16777216) (by omega:0 < m.w)).2 (by rw [Int.mul_comm]; exact hs)
 omega
theorem jVG {p:RP} {x:Scr} {m:Im} (A:At p x 1) (h:imIn m) (hi:x.ims.length < 64):∃ q,Rd_ p (imTx m) q∧At q { x with ims:=x.ims++[m.nrm] } 1:=by
 obtain ⟨hf,hc,hp⟩:=h
 have A3:=A.s
 by_cases hs:m.so=true
 ·rw [← zGM m hs]
  have c1:∀ x∈[zQ9]++digW ([m.w,m.h]++smpP m.c),zXJ x:=fun x hx=>by
   rcases List.mem_append.1 hx with hx | hx
   ·rw [List.mem_singleton.1 hx]; exact clean_of (by decide)
   ·exact zXC _ x hx
  refine ⟨{ p with part:=1,s:={ p.s with ims:=p.s.ims++[m.nrm] } },Rd_.line c1 ?_,by rw [← A3],A.hd,A.left,A.px,by show (1:Int)≤1; decide⟩
  obtain ⟨n1,n2⟩:=jU7 hf zQ9 (digW (smpP m.c))
  have e:[zQ9]++digW ([m.w,m.h]++smpP m.c)=[zQ9]++digW [m.w,m.h]++digW (smpP m.c):=rfl
  unfold zJj
  rw [zXn (by simp) c1,if_neg (by rw [A.left]; decide),if_neg (by rw [A.hd]; decide),e]
  rw [if_neg (show ¬wAt ([zQ9]++digW [m.w,m.h]++digW (smpP m.c)) 0=zZD from jUY),if_pos (show (wAt ([zQ9]++digW [m.w,m.h]++digW (smpP m.c)) 0=zQ9∨_) from .inl rfl)]
  unfold zYD
  have c2:¬(1 < p.part∨64≤p.s.ims.length∨([zQ9]++digW [m.w,m.h]++digW (smpP m.c)).length < 3):=by
   have:=A.part
   rw [A3]
   rintro (g | g | g)
   ·omega
   ·omega
   ·have e8:([zQ9]++digW [m.w,m.h]++digW (smpP m.c)).length=8:=rfl
    omega
  rw [if_neg c2,n1]
  have c3:¬((([m.w,m.h],true):List Int × Bool).2=false∨16777216 / iAt [m.w,m.h] 0 < iAt [m.w,m.h] 1):=by
   rintro (g | g)
   ·cases g
   ·exact n2 g
  rw [if_neg c3,if_pos (show wAt ([zQ9]++digW [m.w,m.h]++digW (smpP m.c)) 0=zQ9 from rfl)]
  rw [show ([zQ9]++digW [m.w,m.h]++digW (smpP m.c)).drop 3=digW (smpP m.c) from rfl,jQE hc]
  unfold Im.nrm
  rw [if_pos hs]
  rfl
 ·have hne:m.pixels≠[]:=fun e=>by
   have h1:=Im.pixels_len hf
   have h2:=Im.count_pos hf
   have hw:=Im.wh hf
   rw [e] at h1
   have:=Int.mul_pos (a:=m.w) (b:=m.h) (by omega) (by omega)
   simp at h1; omega
  have eT:imTx m=zQ4 ([zQ5]++digW [m.w,m.h])++m.pixels.flatMap pxTx:=by
   unfold imTx; rw [if_neg hs,zZN _ _ (by decide)]
  have c1:∀ x∈[zQ5]++digW [m.w,m.h],zXJ x:=fun x hx=>by
   rcases List.mem_append.1 hx with hx | hx
   ·rw [List.mem_singleton.1 hx]; exact clean_of (by decide)
   ·exact zXC _ x hx
  have h1:Rd_ p (zQ4 ([zQ5]++digW [m.w,m.h])) { p with part:=1,w:=m.w,h:=m.h,left:=m.w*m.h }:=by
   refine Rd_.line c1 ?_
   obtain ⟨n1,n2⟩:=jU7 hf zQ5 []
   rw [List.append_nil] at n1
   unfold zJj
   rw [zXn (by simp) c1,if_neg (by rw [A.left]; decide),if_neg (by rw [A.hd]; decide)]
   rw [if_neg (show ¬wAt ([zQ5]++digW [m.w,m.h]) 0=zZD from (by decide:zQ5≠zZD)),if_pos (show (_∨wAt ([zQ5]++digW [m.w,m.h]) 0=zQ5) from .inr rfl)]
   unfold zYD
   have c2:¬(1 < p.part∨64≤p.s.ims.length∨([zQ5]++digW [m.w,m.h]).length < 3):=by
    have:=A.part
    rw [A3]
    rintro (g | g | g)
    ·omega
    ·omega
    ·simp [digW] at g
   rw [if_neg c2,n1]
   have c3:¬((([m.w,m.h],true):List Int × Bool).2=false∨16777216 / iAt [m.w,m.h] 0 < iAt [m.w,m.h] 1):=by
    rintro (g | g)
    ·cases g
    ·exact n2 g
   rw [if_neg c3,if_neg (show ¬wAt ([zQ5]++digW [m.w,m.h]) 0=zQ9 from (by decide:zQ5≠zQ9))]
   rfl
  have h2:=jZM m.pixels { p with part:=1,w:=m.w,h:=m.h,left:=m.w*m.h } hne hp (Im.pixels_len hf).symm
  rw [eT]
  refine ⟨_,h1.app h2,?_,A.hd,rfl,rfl,by show (1:Int)≤1; decide⟩
  show ({ p.s with ims:=p.s.ims++[imOf m.w m.h (p.px++m.pixels)] }:Scr)=_
  rw [A.px,A3,List.nil_append]
  unfold Im.nrm
  rw [if_neg hs]
theorem jZN:∀ (l:List Im) {p:RP} {x:Scr},At p x 1→(∀ m∈l,imIn m)→x.ims.length+l.length≤64→∃ q,Rd_ p (l.flatMap imTx) q∧At q { x with ims:=x.ims++l.map Im.nrm } 1
 | [],p,x,A,_,_=>⟨p,Rd_.nil p,by rw [A.s]; simp,A.hd,A.left,A.px,A.part⟩
 | m::l,p,x,A,h,hl=>by
  rw [List.length_cons] at hl
  obtain ⟨q,h1,A1⟩:=jVG A (h m (by simp)) (by omega)
  obtain ⟨r,h2,A2⟩:=jZN l A1 (fun y hy=>h y (by simp [hy])) (by simp; omega)
  refine ⟨r,?_,?_⟩
  ·rw [List.flatMap_cons]; exact h1.app h2
  ·have e:({ x with ims:=x.ims++(m::l).map Im.nrm }:Scr)={ x with ims:=(x.ims++[m.nrm])++l.map Im.nrm }:=by simp
   rw [e]
   exact A2
theorem jVQ {o:Oq} (hk:opOk o=true) (hp:prtO o=true) (hq:0≤o.opac∧o.opac≤65535) :
  ∃ ws,opLn o=zQ4 ws∧ws≠[]∧(∀ x∈ws,zXJ x)∧opR ws=(o,true)∧wAt ws 0≠zZD∧wAt ws 0≠zQ9∧wAt ws 0≠zQ5:=by
 have hf:=hk
 unfold opOk at hf
 rw [Bool.and_eq_true,zYX,zYX] at hf
 obtain ⟨f1,f2⟩:=hf
 have f_i:=f1 o.image (by simp)
 have f_m:=f1 o.mask (by simp)
 have f_x:=f2 o.x (by simp)
 have f_y:=f2 o.y (by simp)
 have f_mx:=f2 o.mx (by simp)
 have f_my:=f2 o.my (by simp)
 have n_i:=zXT f_i.1 f_i.2 (by decide) (by decide)
 have n_m:=zXT f_m.1 f_m.2 (by decide) (by decide)
 have n_x:=zXT f_x.1 f_x.2 (by decide) (by decide)
 have n_y:=zXT f_y.1 f_y.2 (by decide) (by decide)
 have n_mx:=zXT f_mx.1 f_mx.2 (by decide) (by decide)
 have n_my:=zXT f_my.1 f_my.2 (by decide) (by decide)
 have n_o:=jZT hq.1 hq.2 (by decide) (by decide)
 have v:∀ {x:Int},-2147483648≤x→x≤2147483647→numV (itoa x)=x:=fun h0 h1=>(zU3 (by omega) (by omega)).2
 have hw:IntKind.wrap .u16 o.opac=o.opac:=by simp [IntKind.wrap,IntKind.bits,IntKind.signed]; omega
 unfold prtO at hp
 by_cases h1:o.kind=1
 ·rw [if_pos h1] at hp
  simp only [Bool.and_eq_true,Bool.not_eq_true',decide_eq_true_eq] at hp
  obtain ⟨⟨⟨p1,p2⟩,p3⟩,p4⟩:=hp
  obtain ⟨c3,e3⟩:=jWG p3
  obtain ⟨c4,e4⟩:=jY2 p4
  refine ⟨_,(zH7 o h1).symm,by simp,fun x hx=>?_,?_,(by decide:zZ9≠zZD),(by decide:zZ9≠zQ9),(by decide:zZ9≠zQ5)⟩
  ·rcases List.mem_append.1 hx with hx | hx
   ·rcases List.mem_append.1 hx with hx | hx
    ·rw [List.mem_singleton.1 hx]; exact clean_of (by decide)
    ·exact zXC _ x hx
   ·simp at hx
    rcases hx with rfl | rfl
    ·exact c3
    ·exact c4
  ·show opR [zZ9,itoa o.image,itoa o.x,itoa o.y,itoa o.mask,itoa o.mx,itoa o.my,itoa o.opac,ofS (zQj o.oper),ofS (zQc o.mode)]=_
   have hC:zZ9=zZ9∧[itoa o.image,itoa o.mask].all (okN 0 255)=true∧[itoa o.x,itoa o.y,itoa o.mx,itoa o.my].all (okN (-2147483648) 2147483647)=true:=⟨rfl,by simp [n_i,n_m],by simp [n_x,n_y,n_mx,n_my]⟩
   refine (if_pos hC).trans ?_
   unfold zHr jZs
   have k_o:okN 0 65535 (itoa o.opac)=true:=zXT hq.1 hq.2 (by decide) (by decide)
   rw [n_o,e3,e4,k_o,v (by omega) (by omega),v (by omega) (by omega),v (by omega) (by omega),v (by omega) (by omega),v (by omega) (by omega),v (by omega) (by omega),hw]
   refine Prod.ext ?_ rfl
   rcases o with ⟨k,im,x,y,m,mx,my,q,op,md,is,kn⟩
   simp only at h1 p1 p2
   subst h1; subst p1; subst p2
   rfl
 ·rw [if_neg h1] at hp
  by_cases h2:o.kind=2
  ·rw [if_pos h2] at hp
   simp only [Bool.and_eq_true,Bool.not_eq_true',decide_eq_true_eq] at hp
   obtain ⟨⟨⟨⟨p1,p2⟩,p2'⟩,p3⟩,p4⟩:=hp
   obtain ⟨c3,e3⟩:=jWG p3
   obtain ⟨c4,e4⟩:=jY2 p4
   refine ⟨_,(zH6 o h2).symm,by simp,fun x hx=>?_,?_,(by decide:zXi≠zZD),(by decide:zXi≠zQ9),(by decide:zXi≠zQ5)⟩
   ·rcases List.mem_append.1 hx with hx | hx
    ·rcases List.mem_append.1 hx with hx | hx
     ·rcases List.mem_append.1 hx with hx | hx
      ·rw [List.mem_singleton.1 hx]; exact clean_of (by decide)
      ·exact zXC _ x hx
     ·simp at hx
      rcases hx with rfl | rfl
      ·exact c3
      ·exact c4
    ·exact zXC _ x hx
   ·show opR [zXi,itoa o.mask,itoa o.mx,itoa o.my,itoa o.opac,ofS (zQj o.oper),ofS (zQc o.mode),itoa (bitN o.iso),itoa (bitN o.kno)]=_
    have b:∀ z:Bool,okN 0 1 (itoa (bitN z))=true∧decide (numV (itoa (bitN z))=1)=z:=fun z=>by
     refine ⟨zXT (by cases z <;> decide) (by cases z <;> decide) (by decide) (by decide),?_⟩
     rw [v (by cases z <;> decide) (by cases z <;> decide)]
     cases z <;> rfl
    have hC:zXi=zXi∧okN 0 255 (itoa o.mask)=true∧[itoa o.mx,itoa o.my].all (okN (-2147483648) 2147483647)=true∧[itoa (bitN o.iso),itoa (bitN o.kno)].all (okN 0 1)=true:=⟨rfl,n_m,by simp [n_mx,n_my],by simp [(b o.iso).1,(b o.kno).1]⟩
    refine (if_pos hC).trans ?_
    unfold zHr jZs
    have k_o:okN 0 65535 (itoa o.opac)=true:=zXT hq.1 hq.2 (by decide) (by decide)
    rw [n_o,e3,e4,k_o,(b o.iso).2,(b o.kno).2,v (by omega) (by omega),v (by omega) (by omega),v (by omega) (by omega),hw]
    refine Prod.ext ?_ rfl
    rcases o with ⟨k,im,x,y,m,mx,my,q,op,md,is,kn⟩
    simp only at h2 p1 p2 p2'
    subst h2; subst p1; subst p2; subst p2'
    rfl
  ·rw [if_neg h2] at hp
   by_cases h3:o.kind=3
   ·rw [if_pos h3] at hp
    have:=of_decide_eq_true hp
    refine ⟨_,(jZ0 o h1 h2).symm,by simp,fun x hx=>?_,?_,(by decide:sPop≠zZD),(by decide:sPop≠zQ9),(by decide:sPop≠zQ5)⟩
    ·rw [List.mem_singleton.1 hx]; exact clean_of (by decide)
    ·rw [this]; rfl
   ·rw [if_neg h3] at hp; cases hp
theorem jGq {p:RP} {x:Scr} {o:Oq} (A:At p x 2) (hk:opOk o=true) (hp:prtO o=true) (hq:0≤o.opac∧o.opac≤65535) (hl:x.ops.length < 4096):∃ q,Rd_ p (opLn o) q∧At q { x with ops:=x.ops++[o] } 2:=by
 obtain ⟨ws,e,hne,hc,hr,h1,h2,h3⟩:=jVQ hk hp hq
 have A3:=A.s
 rw [e]
 refine ⟨{ p with part:=2,s:={ p.s with ops:=p.s.ops++[o] } },Rd_.line hc ?_,by rw [← A3],A.hd,A.left,A.px,by show (2:Int)≤2; decide⟩
 unfold zJj
 rw [zXn hne hc,if_neg (by rw [A.left]; decide),if_neg (by rw [A.hd]; decide),if_neg h1,if_neg (fun g=>g.elim h2 h3),hr,A3,decide_eq_true hl]
 rfl
theorem jWB:∀ (l:List Oq) {p:RP} {x:Scr},At p x 2→(∀ o∈l,(opOk o=true∧prtO o=true)∧0≤o.opac∧o.opac≤65535)→x.ops.length+l.length≤4096→∃ q,Rd_ p (l.flatMap opLn) q∧At q { x with ops:=x.ops++l } 2
 | [],p,x,A,_,_=>⟨p,Rd_.nil p,by rw [A.s]; simp,A.hd,A.left,A.px,A.part⟩
 | o::l,p,x,A,h,hl=>by
  rw [List.length_cons] at hl
  have ho:=h o (by simp)
  obtain ⟨q,h1,A1⟩:=jGq A ho.1.1 ho.1.2 ho.2 (by omega)
  obtain ⟨r,h2,A2⟩:=jWB l A1 (fun y hy=>h y (by simp [hy])) (by simp; omega)
  refine ⟨r,?_,?_⟩
  ·rw [List.flatMap_cons]; exact h1.app h2
  ·have e:({ x with ops:=x.ops++o::l }:Scr)={ x with ops:=(x.ops++[o])++l }:=by simp
   rw [e]
   exact A2
theorem jU2 {s:Scr} (P:Prt s) (hI:∀ m∈s.ims,imIn m) (hq:∀ o∈s.ops,0≤o.opac∧o.opac≤65535):∃ q,Rd_ zRP (fmtT s) q∧At q s.norm 2:=by
 have h1:=jUd P
 obtain ⟨q2,h2,A2⟩:=jVF P
 obtain ⟨q3,h3,A3⟩:=jZN s.ims A2 hI (by have:=P.il; simp; omega)
 obtain ⟨q4,h4,A4⟩:=jWB s.ops (⟨A3.s,A3.hd,A3.left,A3.px,by have:=A3.part; omega⟩:At q3 _ 2) (fun o ho=>⟨P.op o ho,hq o ho⟩) (by have:=P.pl; simp; omega)
 refine ⟨q4,?_,?_⟩
 ·unfold fmtT
  exact ((h1.app h2).app h3).app h4
 ·have e:(⟨s.bits,s.c,s.tw,s.th,s.ord,[]++s.ims.map Im.nrm,[]++s.ops⟩:Scr)=s.norm:=rfl
  rw [← e]
  exact A4
theorem jVX {m:Im} (hf:m.formed=true):zYy m.nrm=zYy m∧m.nrm.formed=true:=by
 unfold Im.nrm zYy
 by_cases hs:m.so=true
 ·rw [if_pos hs,if_pos hs]; exact ⟨rfl,zZR _ (Im.formed_of hf).1⟩
 ·rw [if_neg hs,if_neg hs,zJE (Im.pixels_ok hf)]; exact ⟨rfl,zJB (Im.pixels_ok hf)⟩
theorem jZU:∀ {l:List Im},(∀ m∈l,m.formed=true)→zZw (l.map Im.nrm)=zZw l∧(l.map Im.nrm).all Im.formed=true
 | [],_=>⟨rfl,rfl⟩
 | m::l,h=>by
  obtain ⟨h1,h2⟩:=jVX (h m (by simp))
  obtain ⟨h3,h4⟩:=jZU (l:=l) fun y hy=>h y (by simp [hy])
  rw [List.map_cons,zZw,zZw,h1,h3,List.all_cons,h2,h4]
  exact ⟨rfl,rfl⟩
theorem jUq {s:Scr} (h:zXc s=true):zXc s.norm=true:=by
 unfold zXc at h ⊢
 simp only [Bool.and_eq_true] at h
 obtain ⟨⟨⟨h1,h2⟩,h3⟩,h4⟩:=h
 obtain ⟨h5,h6⟩:=jZU (l:=s.ims) (List.all_eq_true.1 h2)
 have e1:zVW s.norm=zVW s:=by unfold zVW Scr.norm; simp
 have e2:zXL s.norm s.norm.ims=zXL s s.ims:=by unfold zXL; show _+zZw (s.ims.map Im.nrm)=_; rw [h5]; rfl
 rw [e1,e2,h1,h4,show s.norm.ims.all Im.formed=true from h6,show s.norm.ops.all opOk=true from h3]
 rfl
theorem jZR {s:Scr} (h:zUc s=true) (hI:∀ m∈s.ims,imIn m) (hq:∀ o∈s.ops,0≤o.opac∧o.opac≤65535):jZO (fmtT s)=(s.norm,0,0):=by
 obtain ⟨q,h1,A⟩:=jU2 (jKw h) hI hq
 have:=h1 0 []
 rw [List.append_nil] at this
 unfold jZO
 rw [this,rGo,if_neg (by rw [A.hd,A.left]; decide),A.s,if_pos (jUq (Bool.and_eq_true_iff.1 h).1)]
theorem jK9 {bits:Int} {mn:Nat} {o:Oq} {st:List Oq} (h:errO bits mn o st=0):prtO o=true:=by
 unfold errO at h
 split at h
 ·cases h
 rename_i k1
 split at h
 ·cases h
 rename_i k2
 split at h
 ·rename_i k3
  have:o=popO:=by
   unfold Oq.fields at k2
   rw [if_pos k3] at k2
   simpa using k2
  subst this
  decide
 rename_i k3
 split at h
 ·cases h
 split at h
 ·cases h
 split at h
 ·cases h
 split at h
 ·cases h
 rename_i k7
 split at h
 ·cases h
 rename_i k8
 have k7:=Classical.not_not.1 k7
 have k8:=Classical.not_not.1 k8
 have k1:=Classical.not_not.1 k1
 unfold Oq.fields at k2
 rw [if_neg k3] at k2
 unfold prtO
 rw [decide_eq_true k7,decide_eq_true k8]
 rcases k1 with k1 | k1 | k1
 ·rw [if_pos k1]
  revert k2
  cases o.iso <;> cases o.kno <;> simp [k1]
 ·rw [if_neg (by omega),if_pos k1]
  by_cases z1:o.image=0 <;> by_cases z2:o.x=0 <;> by_cases z3:o.y=0 <;> simp_all
 ·exact absurd k1 k3
theorem Scn.ops_prt (s:Scn):s.ops.all prtO=true:=by
 rw [List.all_eq_true]
 intro o ho
 obtain ⟨st,h⟩:=jX3 s.ops_ok o ho
 exact jK9 h
theorem Scn.prt (s:Scn) {ms:List Im} (h1:ms.length≤64) (h2:∀ m∈ms,m.formed=true∧m.w≤100∧m.h≤100):zUc ⟨s.bits,s.c,s.gtw,s.gth,s.ord,ms,s.ops⟩=true:=by
 unfold zUc
 rw [s.enc h1 h2 (by have:=s.ops_len; omega) s.ops_fit,show (⟨s.bits,s.c,s.gtw,s.gth,s.ord,ms,s.ops⟩:Scr).ops.all prtO=true from s.ops_prt]
 rfl
theorem Scn.prt_scr (s:Scn):zUc s.scr=true:=s.prt (by have:=s.ims_len; omega) fun m hm=>⟨(s.fine m hm).1,(s.fine m hm).2.1⟩
theorem Scn.fmt (s:Scn):fmtR s.scr=(fmtT s.scr,0):=by unfold fmtR; rw [if_pos s.prt_scr]
theorem Scn.read (s:Scn):jZO (fmtT s.scr)=(s.scr.norm,0,0):=jZR s.prt_scr s.ims_in s.ops_opac
theorem Scn.read_eq (s:Scn):eqS s.scr s.scr.norm=true:=by
 have h1:zG8 s.ims (s.ims.map Im.nrm)=true:=by
  have:=jVd (f:=id) (g:=Im.nrm) (l:=s.ims) fun m hm=>jUp (s.fine m hm).1
  simpa using this
 unfold eqS Scr.norm Scn.scr
 rw [h1]
 simp
theorem jJR {m:Im} (h:imIn m) (hm:m.w≤100∧m.h≤100):(imTx m).length≤1110300:=by
 have hw:=Im.wh h.1
 have hpx:=Im.pixels_len h.1
 have hle:m.w*m.h≤10000:=by
  have h1:=Int.mul_le_mul_of_nonneg_left hm.2 (by omega:0≤m.w)
  omega
 have l1:(zQ3 zQ9 [m.w,m.h]).length≤5+22*2:=zXz (fun n hn=>by
  simp only [List.mem_cons,List.not_mem_nil,or_false] at hn
  omega) rfl
 have l3:(zQ3 zQ5 [m.w,m.h]).length≤5+22*2:=zXz (fun n hn=>by
  simp only [List.mem_cons,List.not_mem_nil,or_false] at hn
  omega) rfl
 have hc:=h.2.1
 obtain ⟨c1,c2,c3,c4,c5⟩:=hc
 have l2:(zQ3 (zQ3 zQ9 [m.w,m.h]) (smpP m.c)).length≤(zQ3 zQ9 [m.w,m.h]).length+22*5:=zXz (fun x hx=>by
  simp only [smpP,List.mem_cons,List.not_mem_nil,or_false] at hx
  omega) rfl
 have l4:=zUj (f:=pxTx) (B:=111) (l:=m.pixels) fun p hp=>jYG (h.2.2 p hp)
 unfold imTx
 split
 ·simp only [List.length_append,List.length_cons,List.length_nil]; omega
 ·simp only [List.length_append,List.length_cons,List.length_nil]; omega
theorem Scn.fmt_len (s:Scn):(fmtT s.scr).length≤5000000:=by
 have P:=jKw s.prt_scr
 have h:=jQ2 P
 obtain ⟨p1,p2,p3,p4,p5,p6,p7,p8,p9⟩:=P
 have li:=s.ims_len
 have lo:=s.ops_len
 have ld:=s.ord_len
 have h1:=zUj (f:=imTx) (B:=1110300) (l:=s.ims) fun m hm=>jJR (s.ims_in m hm) (s.fine m hm).2.1
 have h2:=zUj (f:=opLn) (B:=301) (l:=s.ops) fun o ho=>by
  have:=jYS (p9 o ho).1 (s.ops_opac o ho)
  unfold opLn
  simp only [List.length_append,List.length_cons,List.length_nil]
  omega
 have h3:(orTx s.scr).length≤5+22*s.ord.length+1:=by
  unfold orTx
  split
  ·simp only [List.length_append,List.length_cons,List.length_nil]; exact Nat.succ_le_succ h.2.2.2
  ·simp
 have h4:=h.1
 have h5:=h.2.1
 have h6:=h.2.2.1
 unfold fmtT hdTx
 simp only [List.length_append,List.length_cons,List.length_nil]
 have e1:s.scr.ims=s.ims:=rfl
 have e2:s.scr.ops=s.ops:=rfl
 rw [e1,e2]
 omega
def jXD:Lb:=[98,105,116,115,32,56,10,99,97,110,118,97,115,32,45,49,32,48,32,50,32,50,10,116,105,108,101,115,32,49,32,50,10,115,111,108,105,100,32,51,32,50,32,49,32,50,32,51,32,52,32,53,10,100,114,97,119,32,48,32,45,49,32,50,32,48,32,48,32,48,32,50,53,53,32,115,114,99,45,111,118,101,114,32,110,111,114,109,97,108,10]
def awS:Scr:=⟨8,⟨-1,0,2,2⟩,1,2,[],[zQd 3 2 ⟨1,2,3,4,5⟩],[⟨1,0,-1,2,0,0,0,255,4,1,false,false⟩]⟩
theorem it (w:Lb) (v:Int) (h:zY6 w=true) (hv:numV w=v):itoa v=w:=hv ▸ jQn h
theorem jGk:ofS (zQj 4)=[115,114,99,45,111,118,101,114]:=by decide +kernel
theorem jWo:ofS (zQc 1)=[110,111,114,109,97,108]:=by decide +kernel
theorem jWT:zUc awS=true:=by decide +kernel
theorem jWW:fmtT awS=jXD:=by
 have e0:=it [48] 0 rfl rfl
 have e1:=it [49] 1 rfl rfl
 have e2:=it [50] 2 rfl rfl
 have e3:=it [51] 3 rfl rfl
 have e4:=it [52] 4 rfl rfl
 have e5:=it [53] 5 rfl rfl
 have e8:=it [56] 8 rfl rfl
 have e9:=it [45,49] (-1) rfl rfl
 have e255:=it [50,53,53] 255 rfl rfl
 simp [fmtT,hdTx,orTx,imTx,opLn,opTx,zVt,awS,zQd,zQ3,smpP,zYG,zZL,zXo,zQ9,zZ9,jXD,jGk,jWo,e0,e1,e2,e3,e4,e5,e8,e9,e255]
theorem jUR:fmtR awS=(jXD,0):=by unfold fmtR; rw [if_pos jWT,jWW]
theorem jGs:imIn (zQd 3 2 ⟨1,2,3,4,5⟩):=by
 refine jKW (by decide +kernel) fun p hp=>?_
 have:p=⟨1,2,3,4,5⟩:=by
  rw [Im.pixels_so (by decide +kernel) rfl] at hp
  exact List.eq_of_mem_replicate hp
 subst this
 exact ⟨by decide,by decide,by decide,by decide,by decide⟩
theorem jWV:∀ m∈awS.ims,imIn m:=fun m hm=>by rw [List.mem_singleton.1 hm]; exact jGs
theorem jWn:jZO jXD=(awS,0,0):=by
 rw [← jWW,jZR jWT]
 ·rfl
 ·exact jWV
 ·intro o ho
  rw [List.mem_singleton.1 ho]
  decide
theorem jXp:zQD jXD=(awS,0,0):=by rw [jYM,jWn]
theorem jWU:zQD []=(zScr,1,19):=rfl
end Go.Proofs.YtheidkkebdhmkaaGreatDoor
namespace Go.Proofs.YtheidkkebdhmkaaGreatDoor
open Go.RowKit
set_option linter.unusedVariables false
set_option linter.unusedSimpArgs false
attribute [local irreducible] Ans AnsO AnsG AnsN AnsI
set_option maxHeartbeats 4000000
set_option maxRecDepth 4000
def jGg:Gam where
 pure:=fun f xs=>
  if f=15 then (match xs with | [.d (.str s)]=>some (RV.tup [RV.agg [dJ ((zQD (ofS (s))).1.bits),dJ ((zQD (ofS (s))).1.c.a),dJ ((zQD (ofS (s))).1.c.b),dJ ((zQD (ofS (s))).1.c.c),dJ ((zQD (ofS (s))).1.c.d),dJ ((zQD (ofS (s))).1.tw),dJ ((zQD (ofS (s))).1.th),dS ((zQD (ofS (s))).1.ord.length) (is (zQD (ofS (s))).1.ord),dS ((zQD (ofS (s))).1.ims.length) (ims (zQD (ofS (s))).1.ims),dS ((zQD (ofS (s))).1.ops.length) (ops (zQD (ofS (s))).1.ops)],rJ (((zQD (ofS (s))).2.1)),rJ (((zQD (ofS (s))).2.2))]) | _=>none) else
  if f=11 then (match xs with | [.agg [.int _ bits,.int _ cx0,.int _ cy0,.int _ cx1,.int _ cy1,.int _ tw,.int _ th,.sl on oxs,.sl mn mxs,.sl pn pxs]]=>some (RV.tup [RV.d (DV.str (toS (fmtR (⟨bits,⟨cx0,cy0,cx1,cy1⟩,tw,th,ints oxs,zZ6 mxs,zZb pxs⟩:Scr)).1)),rJ (((fmtR (⟨bits,⟨cx0,cy0,cx1,cy1⟩,tw,th,ints oxs,zZ6 mxs,zZb pxs⟩:Scr)).2))]) | _=>none) else
  none
 modes:=fun f=>
  none
 proc:=fun f xs bs=>
  none
 iter:=fun f cs=>
  none
def zWQ:Ann:=Ann.leaf
theorem jXx:vcg Tryz.prog jGg 63 (zQA Tryz.f13) (zWQ ) kn0 (zQ0 []) (post Tryz.prog Tryz.f13.results.toList (·=RV.d (dQ true))) =
 (let yy1:=(⟨#[98,105,116,115,32,56,10,99,97,110,118,97,115,32,45,49,32,48,32,50,32,50,10,116,105,108,101,115,32,49,32,50,10,115,111,108,105,100,32,51,32,50,32,49,32,50,32,51,32,52,32,53,10,100,114,97,119,32,48,32,45,49,32,50,32,48,32,48,32,48,32,50,53,53,32,115,114,99,45,111,118,101,114,32,110,111,114,109,97,108,10]⟩:ByteArray); let yy0:=(zQD (ofS (yy1))); let yy2:=(fmtR (⟨(yy0.1.bits),⟨(yy0.1.c.a),(yy0.1.c.b),(yy0.1.c.c),(yy0.1.c.d)⟩,(yy0.1.tw),(yy0.1.th),ints (is yy0.1.ord),zZ6 (ims yy0.1.ims),zZb (ops yy0.1.ops)⟩:Scr)); let yy3:=(zQD (ofS ((⟨#[]⟩:ByteArray)))); let zz0:=[dJ (yy0.1.bits),dJ (yy0.1.c.a),dJ (yy0.1.c.b),dJ (yy0.1.c.c),dJ (yy0.1.c.d),dJ (yy0.1.tw),dJ (yy0.1.th),dS (yy0.1.ord.length) (is yy0.1.ord),dS (yy0.1.ims.length) (ims yy0.1.ims),dS (yy0.1.ops.length) (ops yy0.1.ops)]; tU3 ((Ans Tryz.prog 15 [RV.d (DV.str yy1)] (RV.tup [RV.agg zz0,rJ ((yy0.2.1)),rJ ((yy0.2.2))]))∧True∧tU8 ((Ans Tryz.prog 11 [RV.agg zz0] (RV.tup [RV.d (DV.str (toS yy2.1)),rJ ((yy2.2))]))∧tU5 ((Ans Tryz.prog 15 [RV.d (DV.str (⟨#[]⟩:ByteArray))] (RV.tup [RV.agg [dJ (yy3.1.bits),dJ (yy3.1.c.a),dJ (yy3.1.c.b),dJ (yy3.1.c.c),dJ (yy3.1.c.d),dJ (yy3.1.tw),dJ (yy3.1.th),dS (yy3.1.ord.length) (is yy3.1.ord),dS (yy3.1.ims.length) (ims yy3.1.ims),dS (yy3.1.ops.length) (ops yy3.1.ops)],rJ ((yy3.2.1)),rJ ((yy3.2.2))]))∧tU3 (tU8 (((((yy0.2.2)==(0:Int))=true→tU4 (((((yy0.2.1)==(0:Int))=true→tU6 (((((yy0.1.ops.length:Int)==(1:Int))=true→tU2 ((0≤(0:Int)∧(0:Int) < (yy0.1.ops.length:Int)∧0 < (ops yy0.1.ops).length)∧True∧(((ops yy0.1.ops)[2]?=some (dJ (nAt (ops yy0.1.ops) 2)))∧True)∧tU3 (((((nAt (ops yy0.1.ops) 2)==(-1:Int))=true→tU4 (((((yy2.2)==(0:Int))=true→tU5 (((((toS yy2.1).toList==yy1.toList)=true→tU4 (((((yy3.2.2)==(19:Int))=true→tU4 (RV.d (dQ ((yy3.2.1)==(1:Int)))=RV.d (dQ true)))∧(((yy3.2.2)==(19:Int))=(!true)→tU2 (RV.d (dQ false)=RV.d (dQ true))))))∧(((toS yy2.1).toList==yy1.toList)=(!true)→tU4 (RV.d (dQ false)=RV.d (dQ true))))))∧(((yy2.2)==(0:Int))=(!true)→tU6 (RV.d (dQ false)=RV.d (dQ true))))))∧(((nAt (ops yy0.1.ops) 2)==(-1:Int))=(!true)→tU8 (RV.d (dQ false)=RV.d (dQ true)))))))∧(((yy0.1.ops.length:Int)==(1:Int))=(!true)→tU2 (tU8 (RV.d (dQ false)=RV.d (dQ true)))))))∧(((yy0.2.1)==(0:Int))=(!true)→tU4 (tU8 (RV.d (dQ false)=RV.d (dQ true)))))))∧(((yy0.2.2)==(0:Int))=(!true)→tU6 (tU8 (RV.d (dQ false)=RV.d (dQ true))))))))))):=by kernel_rfl
theorem jZn:Ans Tryz.prog 13 [] (RV.d (DV.bool true)):=
 zQo (Γ:=jGg) (zWQ ) zQC Tryz.func13 rfl (Nat.le_of_ble_eq_true rfl) fun hwf=>by
  refine Eq.mpr (jXx ) ?_
  delta tU2 tU3 tU4 tU5 tU6 tU8 dJ dQ dS rJ
  simp only [true_and,and_true,RV.d.injEq,RV.agg.injEq,RV.tup.injEq,DV.bool.injEq,DV.int.injEq,DV.sl.injEq,List.cons.injEq,forall_const,Bool.not_false,Bool.not_true,Bool.not_eq_true',Bool.not_eq_false',decide_eq_true_eq,decide_eq_false_iff_not,Int.toNat_natCast]
  have f:=zKi awS (fun m hm=>by rw [List.mem_singleton.1 hm]; exact zYx _ _ _) (fun m hm _=>jWV m hm) (fun o ho=>by rw [List.mem_singleton.1 ho]; decide) (by decide)
  have p:=zY2 jXD (by decide)
  have q:=zY2 [] (by decide)
  have hW:(⟨#[98,105,116,115,32,56,10,99,97,110,118,97,115,32,45,49,32,48,32,50,32,50,10,116,105,108,101,115,32,49,32,50,10,115,111,108,105,100,32,51,32,50,32,49,32,50,32,51,32,52,32,53,10,100,114,97,119,32,48,32,45,49,32,50,32,48,32,48,32,48,32,50,53,53,32,115,114,99,45,111,118,101,114,32,110,111,114,109,97,108,10]⟩:ByteArray)=toS jXD:=rfl
  have hE:(⟨#[]⟩:ByteArray)=toS []:=rfl
  simp only [zZh,jXp,jWU] at p q
  simp only [hW,hE,zZh,jXp,jWU,zQZ,zZP,zZu]
  have eS:(⟨awS.bits,⟨awS.c.a,awS.c.b,awS.c.c,awS.c.d⟩,awS.tw,awS.th,awS.ord,awS.ims,awS.ops⟩:Scr)=awS:=rfl
  simp only [eS,jUR] at f ⊢
  refine ⟨p,f,q,fun _=>⟨fun _=>⟨fun _=>⟨⟨by decide,by decide,by decide⟩,rfl,fun _=>⟨fun _=>⟨fun _=>⟨fun _=>rfl,fun h=>absurd h (by decide)⟩,fun h=>?_⟩,fun h=>absurd h (by decide)⟩,fun h=>absurd h (by decide)⟩,fun h=>absurd h (by decide)⟩,fun h=>absurd h (by decide)⟩,fun h=>absurd h (by decide)⟩
  rw [beq_self_eq_true] at h
  cases h
end Go.Proofs.YtheidkkebdhmkaaGreatDoor
namespace Go.Proofs.YtheidkkebdhmkaaGreatDoor
open Go.RowKit
set_option linter.unusedVariables false
set_option linter.unusedSimpArgs false
attribute [local irreducible] Ans AnsO AnsG AnsN AnsI
set_option maxRecDepth 4000
end Go.Proofs.YtheidkkebdhmkaaGreatDoor
namespace Go.Proofs.YtheidkkebdhmkaaGreatDoor
open Go.RowKit
set_option linter.unusedVariables false
set_option linter.unusedSimpArgs false
def zZ2 (P:Program) (ls:List TypeId) (n:Nat) (xs:List DV):Prop:=
 xs.length=n*ls.length∧∀ (j:Nat) d,xs[j]?=some d→∃ t',ls[j % ls.length]?=some t'∧∃ q,zXm P q t' d
theorem zZ2.at_ {P:Program} {ls:List TypeId} {n:Nat} {xs:List DV} (h:zZ2 P ls n xs) {k r:Nat} {t:TypeId} (hk:k < n) (hr:ls[r]?=some t):∃ d q,xs[k*ls.length+r]?=some d∧zXm P q t d:=by
 obtain ⟨hn,hx⟩:=h
 have hr':r < ls.length:=(List.getElem?_eq_some_iff.1 hr).1
 have hle:(k+1)*ls.length≤n*ls.length:=Nat.mul_le_mul_right _ (by omega)
 rw [Nat.add_mul] at hle
 have hj:k*ls.length+r < xs.length:=by omega
 obtain ⟨t',a,q,b⟩:=hx _ _ (List.getElem?_eq_getElem hj)
 rw [Nat.mul_comm k,Nat.mul_add_mod,Nat.mod_eq_of_lt hr',hr] at a
 injection a with a
 subst a
 exact ⟨_,q,List.getElem?_eq_getElem hj,b⟩
theorem zZ2.int {P:Program} {ls:List TypeId} {n:Nat} {xs:List DV} (h:zZ2 P ls n xs) {k r:Nat} {t:TypeId} {kk:IntKind} (hk:k < n) (hr:ls[r]?=some t) (hu:P.underlying t=some (.int kk)):xs[k*ls.length+r]?=some (.int kk (nAt xs (k*ls.length+r))):=by
 obtain ⟨d,q,e,b⟩:=h.at_ hk hr
 obtain ⟨v,rfl⟩:=b.int hu
 simp only [nAt,e]
theorem zZ2.bool {P:Program} {ls:List TypeId} {n:Nat} {xs:List DV} (h:zZ2 P ls n xs) {k r:Nat} {t:TypeId} (hk:k < n) (hr:ls[r]?=some t) (hu:P.underlying t=some .bool):xs[k*ls.length+r]?=some (.bool (bAt xs (k*ls.length+r))):=by
 obtain ⟨d,q,e,b⟩:=h.at_ hk hr
 obtain ⟨v,rfl⟩:=b.bool hu
 simp only [bAt,e]
theorem zZ2.sl {P:Program} {ls:List TypeId} {n:Nat} {xs:List DV} (h:zZ2 P ls n xs) {k r:Nat} {t e:TypeId} {ms:List TypeId} (hk:k < n) (hr:ls[r]?=some t) (hu:P.underlying t=some (.slice e)) (hl:lv P e=some ms) :
  xs[k*ls.length+r]?=some (.sl (lAt xs (k*ls.length+r)) (cAt xs (k*ls.length+r)))∧zZ2 P ms (lAt xs (k*ls.length+r)) (cAt xs (k*ls.length+r)):=by
 obtain ⟨d,q,e1,b⟩:=h.at_ hk hr
 obtain ⟨m,ys,rfl,_,h1,h2⟩:=b.slice hu hl
 simp only [lAt,cAt,e1]
 exact ⟨trivial,h1,h2⟩
theorem zZ2.ints {P:Program} {t:TypeId} {n:Nat} {xs:List DV} (h:zZ2 P [t] n xs) (hu:P.underlying t=some (.int .i64)):xs=is (ints xs)∧n=xs.length:=
 jWM (by have:=h.1; simpa using this) fun j d hj=>by obtain ⟨t',a,q,b⟩:=h.2 j d hj; exact jY8 hu a b
theorem zZ2.five {P:Program} {t:TypeId} {n:Nat} {xs:List DV} (h:zZ2 P [t,t,t,t,t] n xs) (hu:P.underlying t=some (.int .i64)):Is5 n xs:=
 jGa h.1 fun j d hj=>by obtain ⟨t',a,q,b⟩:=h.2 j d hj; exact jV2 hu a b
theorem zZ2.pics {P:Program} {t ts e:TypeId} {n:Nat} {xs:List DV} (h:zZ2 P [t,t,t,t,ts] n xs) (hu:P.underlying t=some (.int .i64)) (hs:P.underlying ts=some (.slice e)) (hl:lv P e=some [t,t,t,t,t]):jWY n xs:=
 ⟨h.1,fun k hk=>⟨h.int (r:=0) hk rfl hu,h.int (r:=1) hk rfl hu,h.int (r:=2) hk rfl hu,h.int (r:=3) hk rfl hu,(h.sl (r:=4) hk rfl hs hl).1,(h.sl (r:=4) hk rfl hs hl).2.five hu⟩⟩
theorem zZ2.raws {P:Program} {t:TypeId} {n:Nat} {xs:List DV} (h:zZ2 P [t,t,t,t,t,t,t,t,t,t,t] n xs) (hu:P.underlying t=some (.int .i64)):jGl n xs:=by
 refine ⟨h.1,fun i hi=>?_⟩
 have hr:[t,t,t,t,t,t,t,t,t,t,t][i % 11]?=some t:=by
  have h2:i % 11 < 11:=Nat.mod_lt _ (by omega)
  generalize i % 11=r at *
  match r,h2 with
  | 0,_ | 1,_ | 2,_ | 3,_ | 4,_ | 5,_ | 6,_ | 7,_ | 8,_ | 9,_ | 10,_=>rfl
 have:=h.int (k:=i / 11) (r:=i % 11) (by omega) hr hu
 have e:i / 11*[t,t,t,t,t,t,t,t,t,t,t].length+i % 11=i:=by show i / 11*11+i % 11=i; omega
 rw [e] at this
 exact this
theorem jVl {xs ys:List DV} {n m:Nat} (hx:xs.length=n*m) (hy:ys.length=n*m) (h:∀ k,k < n→∀ j,j < m→xs[k*m+j]?=ys[k*m+j]?):xs=ys:=by
 refine List.ext_getElem? fun i=>?_
 by_cases hi:i < n*m
 ·have hm:0 < m:=by
   rcases Nat.eq_zero_or_pos m with h0 | h0
   ·subst h0; simp at hi
   ·exact h0
  have:=h (i / m) (Nat.div_lt_of_lt_mul (by rw [Nat.mul_comm]; exact hi)) (i % m) (Nat.mod_lt _ hm)
  have e:i / m*m+i % m=i:=by rw [Nat.mul_comm]; exact Nat.div_add_mod i m
  rw [e] at this
  exact this
 ·rw [List.getElem?_eq_none (by omega),List.getElem?_eq_none (by omega)]
theorem zZ2.ops {P:Program} {t u b:TypeId} {n:Nat} {xs:List DV} (h:zZ2 P [t,t,t,t,t,t,t,u,t,t,b,b] n xs) (ht:P.underlying t=some (.int .i64)) (hu:P.underlying u=some (.int .u16)) (hb:P.underlying b=some .bool):jGt n xs:=by
 have hl:xs.length=n*12:=h.1
 have hn:(zZb xs).length=n:=by unfold zZb; rw [List.length_map,List.length_range,hl]; omega
 refine ⟨jVl hl (by rw [zZl,hn]) fun k hk j hj=>?_,hn.symm⟩
 have e:(zZb xs)[k]'(by omega)=oqAt xs (k*12):=by simp [zZb]
 rw [jQF (by omega) j hj,e]
 have key:=fun r (hr:r < 12)=>h.at_ (k:=k) (r:=r) (t:=[t,t,t,t,t,t,t,u,t,t,b,b][r]) hk (List.getElem?_eq_getElem hr)
 match j,hj with
 | 0,_=>exact h.int (r:=0) hk rfl ht
 | 1,_=>exact h.int (r:=1) hk rfl ht
 | 2,_=>exact h.int (r:=2) hk rfl ht
 | 3,_=>exact h.int (r:=3) hk rfl ht
 | 4,_=>exact h.int (r:=4) hk rfl ht
 | 5,_=>exact h.int (r:=5) hk rfl ht
 | 6,_=>exact h.int (r:=6) hk rfl ht
 | 7,_=>exact h.int (r:=7) hk rfl hu
 | 8,_=>exact h.int (r:=8) hk rfl ht
 | 9,_=>exact h.int (r:=9) hk rfl ht
 | 10,_=>exact h.bool (r:=10) hk rfl hb
 | 11,_=>exact h.bool (r:=11) hk rfl hb
def IsBs (n:Nat) (xs:List DV):Prop:=xs.length=n∧∀ i,i < n→xs[i]?=some (.bool (bAt xs i))
theorem zZ2.bools {P:Program} {b:TypeId} {n:Nat} {xs:List DV} (h:zZ2 P [b] n xs) (hb:P.underlying b=some .bool):IsBs n xs:=
 ⟨by have:=h.1; simpa using this,fun i hi=>by
  have:=h.bool (k:=i) (r:=0) hi rfl hb
  simpa using this⟩
end Go.Proofs.YtheidkkebdhmkaaGreatDoor
namespace Go.Proofs.YtheidkkebdhmkaaGreatDoor
open Go.RowKit
set_option linter.unusedVariables false
set_option linter.unusedSimpArgs false
attribute [local irreducible] Ans AnsO AnsG AnsN AnsI
set_option maxHeartbeats 4000000
set_option maxRecDepth 4000
def zJX:Gam where
 pure:=fun f xs=>
  if f=11 then (match xs with | [.agg [.int _ bits,.int _ cx0,.int _ cy0,.int _ cx1,.int _ cy1,.int _ tw,.int _ th,.sl on oxs,.sl mn mxs,.sl pn pxs]]=>some (RV.tup [RV.d (DV.str (toS (fmtR (⟨bits,⟨cx0,cy0,cx1,cy1⟩,tw,th,ints oxs,zZ6 mxs,zZb pxs⟩:Scr)).1)),rJ (((fmtR (⟨bits,⟨cx0,cy0,cx1,cy1⟩,tw,th,ints oxs,zZ6 mxs,zZb pxs⟩:Scr)).2))]) | _=>none) else
  if f=15 then (match xs with | [.d (.str s)]=>some (RV.tup [RV.agg [dJ ((zQD (ofS (s))).1.bits),dJ ((zQD (ofS (s))).1.c.a),dJ ((zQD (ofS (s))).1.c.b),dJ ((zQD (ofS (s))).1.c.c),dJ ((zQD (ofS (s))).1.c.d),dJ ((zQD (ofS (s))).1.tw),dJ ((zQD (ofS (s))).1.th),dS ((zQD (ofS (s))).1.ord.length) (is (zQD (ofS (s))).1.ord),dS ((zQD (ofS (s))).1.ims.length) (ims (zQD (ofS (s))).1.ims),dS ((zQD (ofS (s))).1.ops.length) (ops (zQD (ofS (s))).1.ops)],rJ (((zQD (ofS (s))).2.1)),rJ (((zQD (ofS (s))).2.2))]) | _=>none) else
  if f=13 then (match xs with | []=>some (RV.d (dQ true)) | _=>none) else
  if f=16 then (match xs with | [.agg [.int _ bits,.int _ cx0,.int _ cy0,.int _ cx1,.int _ cy1,.int _ tw,.int _ th,.sl on oxs,.sl mn mxs,.sl pn pxs],.agg [.int _ bitsq,.int _ cx0q,.int _ cy0q,.int _ cx1q,.int _ cy1q,.int _ twq,.int _ thq,.sl onq oxsq,.sl mnq mxsq,.sl pnq pxsq]]=>some (RV.d (dQ (eqS (⟨bits,⟨cx0,cy0,cx1,cy1⟩,tw,th,ints oxs,zZ6 mxs,zZb pxs⟩:Scr) (⟨bitsq,⟨cx0q,cy0q,cx1q,cy1q⟩,twq,thq,ints oxsq,zZ6 mxsq,zZb pxsq⟩:Scr)))) | _=>none) else
  none
 modes:=fun f=>
  if f=9 then some ([true],0,3) else
  none
 proc:=fun f xs bs=>
  if f=9 then (match xs,bs with | [AV.agg [Cl.d (DV.int _ sb),Cl.d (DV.int _ sx),Cl.d (DV.int _ sy),Cl.d (DV.int _ sw),Cl.d (DV.int _ sh),Cl.d (DV.int _ stw),Cl.d (DV.int _ sth),Cl.d (DV.sl son soxs),Cl.d (DV.sl spn spxs),Cl.d (DV.sl srn srxs)]],[]=>some ⟨AV.agg [cJ ((((⟨sb,sx,sy,sw,sh,stw,sth,son,soxs,spn,spxs,srn,srxs⟩:Scn)).bits)),cJ ((((⟨sb,sx,sy,sw,sh,stw,sth,son,soxs,spn,spxs,srn,srxs⟩:Scn)).c.a)),cJ ((((⟨sb,sx,sy,sw,sh,stw,sth,son,soxs,spn,spxs,srn,srxs⟩:Scn)).c.b)),cJ ((((⟨sb,sx,sy,sw,sh,stw,sth,son,soxs,spn,spxs,srn,srxs⟩:Scn)).c.c)),cJ ((((⟨sb,sx,sy,sw,sh,stw,sth,son,soxs,spn,spxs,srn,srxs⟩:Scn)).c.d)),cJ ((((⟨sb,sx,sy,sw,sh,stw,sth,son,soxs,spn,spxs,srn,srxs⟩:Scn)).gtw)),cJ ((((⟨sb,sx,sy,sw,sh,stw,sth,son,soxs,spn,spxs,srn,srxs⟩:Scn)).gth)),Cl.ref 0 (((⟨sb,sx,sy,sw,sh,stw,sth,son,soxs,spn,spxs,srn,srxs⟩:Scn)).ord.length),Cl.ref 1 (((⟨sb,sx,sy,sw,sh,stw,sth,son,soxs,spn,spxs,srn,srxs⟩:Scn)).ims.length),Cl.ref 2 (((⟨sb,sx,sy,sw,sh,stw,sth,son,soxs,spn,spxs,srn,srxs⟩:Scn)).ops.length)],[Bx.row 3 1 (is ((⟨sb,sx,sy,sw,sh,stw,sth,son,soxs,spn,spxs,srn,srxs⟩:Scn)).ord),Bx.row 43 28 (ims ((⟨sb,sx,sy,sw,sh,stw,sth,son,soxs,spn,spxs,srn,srxs⟩:Scn)).ims),Bx.row 51 12 (ops ((⟨sb,sx,sy,sw,sh,stw,sth,son,soxs,spn,spxs,srn,srxs⟩:Scn)).ops)],false⟩ | _,_=>none) else
  none
 iter:=fun f cs=>
  none
def zX8 (s:Scn):Ann:=Ann.leaf
theorem zVl (s:Scn):vcg Tryz.prog zJX 40 (zQA Tryz.f5) (zX8 s) kn0 (zQ0 [RV.agg [dJ s.b,dJ s.x,dJ s.y,dJ s.w,dJ s.h,dJ s.tw,dJ s.th,dS s.on s.oxs,dS s.pn s.pxs,dS s.rn s.rxs]]) (post Tryz.prog Tryz.f5.results.toList (·=RV.d (dQ true))) =
 (let yy1:=(⟨((s).bits),((s).c),((s).gtw),((s).gth),ints (is (s).ord),zZ6 (ims (s).ims),zZb (ops (s).ops)⟩:Scr); let yy0:=(zQD (ofS ((toS (fmtR yy1).1)))); let zz0:=[dJ ((s).bits),dJ ((s).c.a),dJ ((s).c.b),dJ ((s).c.c),dJ ((s).c.d),dJ ((s).gtw),dJ ((s).gth),dS ((s).ord.length) (is (s).ord),dS ((s).ims.length) (ims (s).ims),dS ((s).ops.length) (ops (s).ops)]; let zz1:=[dJ (yy0.1.bits),dJ (yy0.1.c.a),dJ (yy0.1.c.b),dJ (yy0.1.c.c),dJ (yy0.1.c.d),dJ (yy0.1.tw),dJ (yy0.1.th),dS (yy0.1.ord.length) (is yy0.1.ord),dS (yy0.1.ims.length) (ims yy0.1.ims),dS (yy0.1.ops.length) (ops yy0.1.ops)]; tU3 ((AnsG Tryz.prog 9 0 [AV.agg [cJ (s.b),cJ (s.x),cJ (s.y),cJ (s.w),cJ (s.h),cJ (s.tw),cJ (s.th),Cl.d (dS s.on s.oxs),Cl.d (dS s.pn s.pxs),Cl.d (dS s.rn s.rxs)]] [] ⟨AV.agg [cJ (((s).bits)),cJ (((s).c.a)),cJ (((s).c.b)),cJ (((s).c.c)),cJ (((s).c.d)),cJ (((s).gtw)),cJ (((s).gth)),Cl.ref 0 ((s).ord.length),Cl.ref 1 ((s).ims.length),Cl.ref 2 ((s).ops.length)],[Bx.row 3 1 (is (s).ord),Bx.row 43 28 (ims (s).ims),Bx.row 51 12 (ops (s).ops)],false⟩)∧tU3 ((Ans Tryz.prog 11 [RV.agg zz0] (RV.tup [RV.d (DV.str (toS (fmtR yy1).1)),rJ (((fmtR yy1).2))]))∧tU6 ((Ans Tryz.prog 15 [RV.d (DV.str (toS (fmtR yy1).1))] (RV.tup [RV.agg zz1,rJ ((yy0.2.1)),rJ ((yy0.2.2))]))∧tU8 ((Ans Tryz.prog 13 [] (RV.d (dQ true)))∧True∧((true=true→tU4 ((((((fmtR yy1).2)==(0:Int))=true→tU4 (((((yy0.2.2)==(0:Int))=true→tU4 (((((yy0.2.1)==(0:Int))=true→tU2 ((Ans Tryz.prog 16 [RV.agg zz0,RV.agg zz1] (RV.d (dQ (eqS yy1 (⟨(yy0.1.bits),(yy0.1.c),(yy0.1.tw),(yy0.1.th),ints (is yy0.1.ord),zZ6 (ims yy0.1.ims),zZb (ops yy0.1.ops)⟩:Scr)))))∧tU2 (RV.d (dQ (eqS yy1 (⟨(yy0.1.bits),(yy0.1.c),(yy0.1.tw),(yy0.1.th),ints (is yy0.1.ord),zZ6 (ims yy0.1.ims),zZb (ops yy0.1.ops)⟩:Scr)))=RV.d (dQ true))))∧(((yy0.2.1)==(0:Int))=(!true)→tU2 (RV.d (dQ false)=RV.d (dQ true))))))∧(((yy0.2.2)==(0:Int))=(!true)→tU4 (RV.d (dQ false)=RV.d (dQ true))))))∧((((fmtR yy1).2)==(0:Int))=(!true)→tU6 (RV.d (dQ false)=RV.d (dQ true))))))∧(true=(!true)→tU8 (RV.d (dQ false)=RV.d (dQ true))))))))):=by kernel_rfl
theorem zKS (s:Scn) (hs:s.ok):Ans Tryz.prog 5 [RV.agg [DV.int .i64 s.b,DV.int .i64 s.x,DV.int .i64 s.y,DV.int .i64 s.w,DV.int .i64 s.h,DV.int .i64 s.tw,DV.int .i64 s.th,DV.sl s.on s.oxs,DV.sl s.pn s.pxs,DV.sl s.rn s.rxs]] (RV.d (DV.bool true)):=
 zQo (Γ:=zJX) (zX8 s) zQC Tryz.func5 rfl (Nat.le_of_ble_eq_true rfl) fun hwf=>by
  refine Eq.mpr (zVl s) ?_
  delta tU2 tU3 tU4 tU6 tU8 dJ dQ cJ dS rJ
  simp only [true_and,and_true,RV.d.injEq,RV.agg.injEq,RV.tup.injEq,DV.bool.injEq,DV.int.injEq,DV.sl.injEq,List.cons.injEq,forall_const,Bool.not_false,Bool.not_true,Bool.not_eq_true',Bool.not_eq_false',decide_eq_true_eq,decide_eq_false_iff_not,Int.toNat_natCast,jZn,zQK]
  have li:=s.ims_len
  have hol:=s.ops_len
  have hod:=s.ord_len
  have hl:=s.fmt_len
  have a1:=zKi ⟨s.bits,s.c,s.gtw,s.gth,s.ord,s.ims,s.ops⟩ s.ims_isU (fun m hm _=>s.ims_in m hm) s.ops_opac (by show s.ord.length≤_; omega)
  have a2:=zY2 (fmtT s.scr) (by omega)
  have a3:=jZf s.scr s.scr.norm s.ims_isU jVY
  have eF:fmtR ⟨s.bits,s.c,s.gtw,s.gth,s.ord,s.ims,s.ops⟩=(fmtT s.scr,0):=s.fmt
  have eP:zQD (fmtT s.scr)=(s.scr.norm,0,0):=by rw [jYM,s.read]
  have eQ:=s.read_eq
  simp only [zQZ,zZP,zZu,eF,zZh,eP] at a1 a2 a3 ⊢
  have nf:∀ {p:Prop},(true=false)→p:=fun h=>by cases h
  refine ⟨jXz s hs,a1,a2,?_⟩
  (repeat' (first | apply And.intro | intro _)) <;> first | exact a3 | exact eQ | (rename_i h; first | exact nf h | exact absurd h (by decide))
end Go.Proofs.YtheidkkebdhmkaaGreatDoor
namespace Go.Proofs.YtheidkkebdhmkaaGreatDoor.closed
open Go
set_option linter.unusedVariables false
set_option linter.unusedSimpArgs false
set_option maxRecDepth 100000 in
theorem jV8:Tryz.prog.initOrder=String.ofList [Char.ofNat 104,Char.ofNat 97,Char.ofNat 114,Char.ofNat 110,Char.ofNat 101,Char.ofNat 115,Char.ofNat 115,Char.ofNat 32,Char.ofNat 101,Char.ofNat 102,Char.ofNat 101,Char.ofNat 98,Char.ofNat 55,Char.ofNat 102,Char.ofNat 102,Char.ofNat 55,Char.ofNat 100,Char.ofNat 48,Char.ofNat 100,Char.ofNat 97,Char.ofNat 100,Char.ofNat 54,Char.ofNat 55,Char.ofNat 52,Char.ofNat 54,Char.ofNat 48,Char.ofNat 98,Char.ofNat 50,Char.ofNat 53,Char.ofNat 49,Char.ofNat 49,Char.ofNat 97,Char.ofNat 52,Char.ofNat 97,Char.ofNat 100,Char.ofNat 100,Char.ofNat 52,Char.ofNat 101,Char.ofNat 50,Char.ofNat 101,Char.ofNat 100,Char.ofNat 54,Char.ofNat 50,Char.ofNat 52,Char.ofNat 97,Char.ofNat 99,Char.ofNat 99,Char.ofNat 55,Char.ofNat 102,Char.ofNat 56,Char.ofNat 56,Char.ofNat 99,Char.ofNat 100,Char.ofNat 49,Char.ofNat 54,Char.ofNat 48,Char.ofNat 98,Char.ofNat 52,Char.ofNat 48,Char.ofNat 52,Char.ofNat 49,Char.ofNat 52,Char.ofNat 48,Char.ofNat 101,Char.ofNat 100,Char.ofNat 50,Char.ofNat 57,Char.ofNat 51,Char.ofNat 50,Char.ofNat 48,Char.ofNat 48,Char.ofNat 57,Char.ofNat 32,Char.ofNat 99,Char.ofNat 117,Char.ofNat 116,Char.ofNat 32,Char.ofNat 97,Char.ofNat 116,Char.ofNat 32,Char.ofNat 99,Char.ofNat 111,Char.ofNat 109,Char.ofNat 112,Char.ofNat 111,Char.ofNat 115,Char.ofNat 105,Char.ofNat 116,Char.ofNat 111,Char.ofNat 114,Char.ofNat 47,Char.ofNat 99,Char.ofNat 111,Char.ofNat 109,Char.ofNat 112,Char.ofNat 111,Char.ofNat 115,Char.ofNat 105,Char.ofNat 116,Char.ofNat 111,Char.ofNat 114,Char.ofNat 108,Char.ofNat 97,Char.ofNat 119,Char.ofNat 49,Char.ofNat 57,Char.ofNat 46,Char.ofNat 84,Char.ofNat 101,Char.ofNat 120,Char.ofNat 116,Char.ofNat 70,Char.ofNat 111,Char.ofNat 114,Char.ofNat 109,Char.ofNat 97,Char.ofNat 116,Char.ofNat 65,Char.ofNat 103,Char.ofNat 114,Char.ofNat 101,Char.ofNat 101,Char.ofNat 115,Char.ofNat 32,Char.ofNat 99,Char.ofNat 111,Char.ofNat 109,Char.ofNat 112,Char.ofNat 111,Char.ofNat 115,Char.ofNat 105,Char.ofNat 116,Char.ofNat 111,Char.ofNat 114,Char.ofNat 47,Char.ofNat 99,Char.ofNat 111,Char.ofNat 109,Char.ofNat 112,Char.ofNat 111,Char.ofNat 115,Char.ofNat 105,Char.ofNat 116,Char.ofNat 111,Char.ofNat 114,Char.ofNat 108,Char.ofNat 97,Char.ofNat 119,Char.ofNat 49,Char.ofNat 57,Char.ofNat 46,Char.ofNat 84,Char.ofNat 101,Char.ofNat 120,Char.ofNat 116,Char.ofNat 70,Char.ofNat 111,Char.ofNat 114,Char.ofNat 109,Char.ofNat 97,Char.ofNat 116,Char.ofNat 82,Char.ofNat 101,Char.ofNat 106,Char.ofNat 101,Char.ofNat 99,Char.ofNat 116,Char.ofNat 115,Char.ofNat 32,Char.ofNat 99,Char.ofNat 111,Char.ofNat 109,Char.ofNat 112,Char.ofNat 111,Char.ofNat 115,Char.ofNat 105,Char.ofNat 116,Char.ofNat 111,Char.ofNat 114,Char.ofNat 47,Char.ofNat 99,Char.ofNat 111,Char.ofNat 109,Char.ofNat 112,Char.ofNat 111,Char.ofNat 115,Char.ofNat 105,Char.ofNat 116,Char.ofNat 111,Char.ofNat 114,Char.ofNat 108,Char.ofNat 97,Char.ofNat 119,Char.ofNat 49,Char.ofNat 57,Char.ofNat 46,Char.ofNat 84,Char.ofNat 101,Char.ofNat 120,Char.ofNat 116,Char.ofNat 82,Char.ofNat 111,Char.ofNat 117,Char.ofNat 110,Char.ofNat 100,Char.ofNat 84,Char.ofNat 114,Char.ofNat 105,Char.ofNat 112,Char.ofNat 32,Char.ofNat 99,Char.ofNat 111,Char.ofNat 109,Char.ofNat 112,Char.ofNat 111,Char.ofNat 115,Char.ofNat 105,Char.ofNat 116,Char.ofNat 111,Char.ofNat 114,Char.ofNat 47,Char.ofNat 99,Char.ofNat 111,Char.ofNat 109,Char.ofNat 112,Char.ofNat 111,Char.ofNat 115,Char.ofNat 105,Char.ofNat 116,Char.ofNat 111,Char.ofNat 114,Char.ofNat 108,Char.ofNat 97,Char.ofNat 119,Char.ofNat 49,Char.ofNat 57,Char.ofNat 46,Char.ofNat 84,Char.ofNat 101,Char.ofNat 120,Char.ofNat 116,Char.ofNat 80,Char.ofNat 97,Char.ofNat 114,Char.ofNat 115,Char.ofNat 101,Char.ofNat 65,Char.ofNat 103,Char.ofNat 114,Char.ofNat 101,Char.ofNat 101,Char.ofNat 115,Char.ofNat 32,Char.ofNat 99,Char.ofNat 111,Char.ofNat 109,Char.ofNat 112,Char.ofNat 111,Char.ofNat 115,Char.ofNat 105,Char.ofNat 116,Char.ofNat 111,Char.ofNat 114,Char.ofNat 47,Char.ofNat 99,Char.ofNat 111,Char.ofNat 109,Char.ofNat 112,Char.ofNat 111,Char.ofNat 115,Char.ofNat 105,Char.ofNat 116,Char.ofNat 111,Char.ofNat 114,Char.ofNat 108,Char.ofNat 97,Char.ofNat 119,Char.ofNat 49,Char.ofNat 57,Char.ofNat 46,Char.ofNat 84,Char.ofNat 101,Char.ofNat 120,Char.ofNat 116,Char.ofNat 80,Char.ofNat 97,Char.ofNat 114,Char.ofNat 115,Char.ofNat 101,Char.ofNat 79,Char.ofNat 102,Char.ofNat 68,Char.ofNat 97,Char.ofNat 109,Char.ofNat 97,Char.ofNat 103,Char.ofNat 101,Char.ofNat 32,Char.ofNat 99,Char.ofNat 111,Char.ofNat 109,Char.ofNat 112,Char.ofNat 111,Char.ofNat 115,Char.ofNat 105,Char.ofNat 116,Char.ofNat 111,Char.ofNat 114,Char.ofNat 47,Char.ofNat 99,Char.ofNat 111,Char.ofNat 109,Char.ofNat 112,Char.ofNat 111,Char.ofNat 115,Char.ofNat 105,Char.ofNat 116,Char.ofNat 111,Char.ofNat 114,Char.ofNat 108,Char.ofNat 97,Char.ofNat 119,Char.ofNat 49,Char.ofNat 57,Char.ofNat 46,Char.ofNat 84,Char.ofNat 101,Char.ofNat 120,Char.ofNat 116,Char.ofNat 82,Char.ofNat 101,Char.ofNat 112,Char.ofNat 111,Char.ofNat 114,Char.ofNat 116,Char.ofNat 115,Char.ofNat 84,Char.ofNat 104,Char.ofNat 101,Char.ofNat 76,Char.ofNat 105,Char.ofNat 110,Char.ofNat 101]:=by kernel_rfl
set_option maxRecDepth 100000 in
theorem zGY:Tryz.prog.initOrder.toList=[Char.ofNat 104,Char.ofNat 97,Char.ofNat 114,Char.ofNat 110,Char.ofNat 101,Char.ofNat 115,Char.ofNat 115,Char.ofNat 32,Char.ofNat 101,Char.ofNat 102,Char.ofNat 101,Char.ofNat 98,Char.ofNat 55,Char.ofNat 102,Char.ofNat 102,Char.ofNat 55,Char.ofNat 100,Char.ofNat 48,Char.ofNat 100,Char.ofNat 97,Char.ofNat 100,Char.ofNat 54,Char.ofNat 55,Char.ofNat 52,Char.ofNat 54,Char.ofNat 48,Char.ofNat 98,Char.ofNat 50,Char.ofNat 53,Char.ofNat 49,Char.ofNat 49,Char.ofNat 97,Char.ofNat 52,Char.ofNat 97,Char.ofNat 100,Char.ofNat 100,Char.ofNat 52,Char.ofNat 101,Char.ofNat 50,Char.ofNat 101,Char.ofNat 100,Char.ofNat 54,Char.ofNat 50,Char.ofNat 52,Char.ofNat 97,Char.ofNat 99,Char.ofNat 99,Char.ofNat 55,Char.ofNat 102,Char.ofNat 56,Char.ofNat 56,Char.ofNat 99,Char.ofNat 100,Char.ofNat 49,Char.ofNat 54,Char.ofNat 48,Char.ofNat 98,Char.ofNat 52,Char.ofNat 48,Char.ofNat 52,Char.ofNat 49,Char.ofNat 52,Char.ofNat 48,Char.ofNat 101,Char.ofNat 100,Char.ofNat 50,Char.ofNat 57,Char.ofNat 51,Char.ofNat 50,Char.ofNat 48,Char.ofNat 48,Char.ofNat 57,Char.ofNat 32,Char.ofNat 99,Char.ofNat 117,Char.ofNat 116,Char.ofNat 32,Char.ofNat 97,Char.ofNat 116,Char.ofNat 32,Char.ofNat 99,Char.ofNat 111,Char.ofNat 109,Char.ofNat 112,Char.ofNat 111,Char.ofNat 115,Char.ofNat 105,Char.ofNat 116,Char.ofNat 111,Char.ofNat 114,Char.ofNat 47,Char.ofNat 99,Char.ofNat 111,Char.ofNat 109,Char.ofNat 112,Char.ofNat 111,Char.ofNat 115,Char.ofNat 105,Char.ofNat 116,Char.ofNat 111,Char.ofNat 114,Char.ofNat 108,Char.ofNat 97,Char.ofNat 119,Char.ofNat 49,Char.ofNat 57,Char.ofNat 46,Char.ofNat 84,Char.ofNat 101,Char.ofNat 120,Char.ofNat 116,Char.ofNat 70,Char.ofNat 111,Char.ofNat 114,Char.ofNat 109,Char.ofNat 97,Char.ofNat 116,Char.ofNat 65,Char.ofNat 103,Char.ofNat 114,Char.ofNat 101,Char.ofNat 101,Char.ofNat 115,Char.ofNat 32,Char.ofNat 99,Char.ofNat 111,Char.ofNat 109,Char.ofNat 112,Char.ofNat 111,Char.ofNat 115,Char.ofNat 105,Char.ofNat 116,Char.ofNat 111,Char.ofNat 114,Char.ofNat 47,Char.ofNat 99,Char.ofNat 111,Char.ofNat 109,Char.ofNat 112,Char.ofNat 111,Char.ofNat 115,Char.ofNat 105,Char.ofNat 116,Char.ofNat 111,Char.ofNat 114,Char.ofNat 108,Char.ofNat 97,Char.ofNat 119,Char.ofNat 49,Char.ofNat 57,Char.ofNat 46,Char.ofNat 84,Char.ofNat 101,Char.ofNat 120,Char.ofNat 116,Char.ofNat 70,Char.ofNat 111,Char.ofNat 114,Char.ofNat 109,Char.ofNat 97,Char.ofNat 116,Char.ofNat 82,Char.ofNat 101,Char.ofNat 106,Char.ofNat 101,Char.ofNat 99,Char.ofNat 116,Char.ofNat 115,Char.ofNat 32,Char.ofNat 99,Char.ofNat 111,Char.ofNat 109,Char.ofNat 112,Char.ofNat 111,Char.ofNat 115,Char.ofNat 105,Char.ofNat 116,Char.ofNat 111,Char.ofNat 114,Char.ofNat 47,Char.ofNat 99,Char.ofNat 111,Char.ofNat 109,Char.ofNat 112,Char.ofNat 111,Char.ofNat 115,Char.ofNat 105,Char.ofNat 116,Char.ofNat 111,Char.ofNat 114,Char.ofNat 108,Char.ofNat 97,Char.ofNat 119,Char.ofNat 49,Char.ofNat 57,Char.ofNat 46,Char.ofNat 84,Char.ofNat 101,Char.ofNat 120,Char.ofNat 116,Char.ofNat 82,Char.ofNat 111,Char.ofNat 117,Char.ofNat 110,Char.ofNat 100,Char.ofNat 84,Char.ofNat 114,Char.ofNat 105,Char.ofNat 112,Char.ofNat 32,Char.ofNat 99,Char.ofNat 111,Char.ofNat 109,Char.ofNat 112,Char.ofNat 111,Char.ofNat 115,Char.ofNat 105,Char.ofNat 116,Char.ofNat 111,Char.ofNat 114,Char.ofNat 47,Char.ofNat 99,Char.ofNat 111,Char.ofNat 109,Char.ofNat 112,Char.ofNat 111,Char.ofNat 115,Char.ofNat 105,Char.ofNat 116,Char.ofNat 111,Char.ofNat 114,Char.ofNat 108,Char.ofNat 97,Char.ofNat 119,Char.ofNat 49,Char.ofNat 57,Char.ofNat 46,Char.ofNat 84,Char.ofNat 101,Char.ofNat 120,Char.ofNat 116,Char.ofNat 80,Char.ofNat 97,Char.ofNat 114,Char.ofNat 115,Char.ofNat 101,Char.ofNat 65,Char.ofNat 103,Char.ofNat 114,Char.ofNat 101,Char.ofNat 101,Char.ofNat 115,Char.ofNat 32,Char.ofNat 99,Char.ofNat 111,Char.ofNat 109,Char.ofNat 112,Char.ofNat 111,Char.ofNat 115,Char.ofNat 105,Char.ofNat 116,Char.ofNat 111,Char.ofNat 114,Char.ofNat 47,Char.ofNat 99,Char.ofNat 111,Char.ofNat 109,Char.ofNat 112,Char.ofNat 111,Char.ofNat 115,Char.ofNat 105,Char.ofNat 116,Char.ofNat 111,Char.ofNat 114,Char.ofNat 108,Char.ofNat 97,Char.ofNat 119,Char.ofNat 49,Char.ofNat 57,Char.ofNat 46,Char.ofNat 84,Char.ofNat 101,Char.ofNat 120,Char.ofNat 116,Char.ofNat 80,Char.ofNat 97,Char.ofNat 114,Char.ofNat 115,Char.ofNat 101,Char.ofNat 79,Char.ofNat 102,Char.ofNat 68,Char.ofNat 97,Char.ofNat 109,Char.ofNat 97,Char.ofNat 103,Char.ofNat 101,Char.ofNat 32,Char.ofNat 99,Char.ofNat 111,Char.ofNat 109,Char.ofNat 112,Char.ofNat 111,Char.ofNat 115,Char.ofNat 105,Char.ofNat 116,Char.ofNat 111,Char.ofNat 114,Char.ofNat 47,Char.ofNat 99,Char.ofNat 111,Char.ofNat 109,Char.ofNat 112,Char.ofNat 111,Char.ofNat 115,Char.ofNat 105,Char.ofNat 116,Char.ofNat 111,Char.ofNat 114,Char.ofNat 108,Char.ofNat 97,Char.ofNat 119,Char.ofNat 49,Char.ofNat 57,Char.ofNat 46,Char.ofNat 84,Char.ofNat 101,Char.ofNat 120,Char.ofNat 116,Char.ofNat 82,Char.ofNat 101,Char.ofNat 112,Char.ofNat 111,Char.ofNat 114,Char.ofNat 116,Char.ofNat 115,Char.ofNat 84,Char.ofNat 104,Char.ofNat 101,Char.ofNat 76,Char.ofNat 105,Char.ofNat 110,Char.ofNat 101]:=by rw [jV8,String.toList_ofList]
set_option maxRecDepth 100000 in
theorem enters:Tryz.prog.mayEnter=true:=by
 unfold Program.mayEnter Program.doorFits
 rw [zGY]
 kernel_rfl
set_option maxRecDepth 100000 in
theorem liftsNot:Tryz.prog.liftsFinal=false:=by
 unfold Program.liftsFinal Program.headLifts
 rw [zGY]
 kernel_rfl
set_option maxRecDepth 100000 in
theorem made:Tryz.prog.make=some .cut:=by
 unfold Program.make
 rw [zGY]
 kernel_rfl
theorem own:ownKnob Tryz.prog.godebug=none:=by kernel_rfl
theorem laidOut:laidOutB Tryz.prog=true:=by kernel_rfl
theorem mapsRow:mapsRowed Tryz.prog=true:=by kernel_rfl
theorem noStops:(Tryz.prog.stops==[])=true:=by kernel_rfl
theorem noKnobs:(Tryz.prog.stopKnobs==[])=true:=by kernel_rfl
theorem plain:Tryz.prog.plainKeys=true:=by kernel_rfl
theorem heard:Tryz.prog.stopsHeard=true:=by kernel_rfl
end Go.Proofs.YtheidkkebdhmkaaGreatDoor.closed
namespace Go.Proofs.YtheidkkebdhmkaaGreatDoor
open Go.RowKit Go.ChangeShapes Go.WideShapes
set_option linter.unusedVariables false
set_option linter.unusedSimpArgs false
def zHc {H:Type} (P:Program):Nat→TypeId→DataW H→Nat→Option DV
 | 0,_,_,_=>none
 | fuel+1,t,d,i=>
  match P.underlying t,d with
  | some (.int k),.lit (.int k' n)=>if i=0∧k'=k then some (.int k n) else none
  | some .bool,.lit (.bool b)=>if i=0 then some (.bool b) else none
  | some .string,.lit (.string s)=>if i=0∧s.length≤maxLen then some (.str ⟨s.toArray⟩) else none
  | some (.struct fs),.agg ds=>(fs.toList.zip ds).findSome? fun x=>if x.1.offset≤i∧i < x.1.offset+P.cellsOf x.1.type then zHc P fuel x.1.type x.2 (i - x.1.offset) else none
  | some (.array _ e),.agg ds=>if P.cellsOf e=0 then none else match ds[i / P.cellsOf e]? with
   | some d=>zHc P fuel e d (i % P.cellsOf e)
   | none=>none
  | _,_=>none
section
variable {H:Type} {enc:TypeId × Value→H} {P:Program} {w:World}
theorem jXk {sp:Nat→Bool} {va:Bool} {V:Nat→Prop}:∀ (fuel:Nat) (t:TypeId) (cs:List Value) (d:DataW H) (ps:List MemPlace) (q i:Nat) (dv:DV),
  DataW.trod enc P w 0 sp va fuel t cs=some (d,ps)→zHc P q t d i=some dv→∃ u,cs[i]?=some u∧RepD w V dv u:=by
 intro fuel
 induction fuel with
 | zero=>intro t cs d ps q i dv h; simp [DataW.trod] at h
 | succ fuel ih=>
  intro t cs d ps q i dv h hq
  cases q with
  | zero=>simp [zHc] at hq
  | succ q=>
  unfold DataW.trod at h
  unfold zHc at hq
  split at h
  ·rename_i b hu
   simp only [Option.some.injEq,Prod.mk.injEq] at h
   obtain ⟨rfl,_⟩:=h
   simp only [hu] at hq
   split at hq
   ·rename_i e; subst e; cases hq; exact ⟨_,rfl,by simp only [RepD]⟩
   ·cases hq
  ·rename_i k k' n hu
   split at h
   ·rename_i hk
    obtain ⟨rfl,hwf⟩:=hk
    simp only [Option.some.injEq,Prod.mk.injEq] at h
    obtain ⟨rfl,_⟩:=h
    simp only [hu] at hq
    split at hq
    ·rename_i e; obtain ⟨rfl,_⟩:=e; cases hq; exact ⟨_,rfl,by simp only [RepD]; exact ⟨trivial,hwf⟩⟩
    ·cases hq
   ·cases h
  ·rename_i hu
   simp only [hu] at hq
   cases hq
  ·rename_i s hu
   split at h
   ·simp only [Option.some.injEq,Prod.mk.injEq] at h
    obtain ⟨rfl,_⟩:=h
    simp only [hu] at hq
    split at hq
    ·rename_i e; obtain ⟨rfl,hl⟩:=e; cases hq
     exact ⟨_,rfl,by simp only [RepD]; exact ⟨by simp,by simpa using hl⟩⟩
    ·cases hq
   ·cases h
  ·rename_i hu; simp only [hu] at hq; cases hq
  ·rename_i hu; simp only [hu] at hq; cases hq
  ·rename_i hu; simp only [hu] at hq; cases hq
  ·rename_i hu; simp only [hu] at hq; cases hq
  ·rename_i fs hu
   split at h
   ·obtain ⟨xs,hxs,h⟩:=Option.map_eq_some_iff.1 h
    simp only [Prod.mk.injEq] at h
    obtain ⟨rfl,_⟩:=h
    simp only [hu] at hq
    obtain ⟨x,hx,hx2⟩:=List.exists_of_findSome?_eq_some hq
    split at hx2
    ·rename_i hr
     obtain ⟨j,hj,e⟩:=List.getElem_of_mem hx
     rw [List.getElem_zip] at e
     simp only [List.length_zip,List.length_map] at hj
     have h1:=mapM_some_get hxs j _ (List.getElem?_eq_getElem (by omega))
     rw [List.getElem?_eq_getElem (show j < xs.length by omega)] at h1
     subst e
     simp only [List.getElem_map] at hx2 hr
     obtain ⟨u,hu1,hu2⟩:=ih _ _ _ _ q _ dv h1 hx2
     refine ⟨u,?_,hu2⟩
     rw [List.getElem?_take,if_pos (by omega),List.getElem?_drop] at hu1
     rwa [show _+(i - _)=i from Nat.add_sub_of_le hr.1] at hu1
    ·cases hx2
   ·cases h
  ·rename_i n e hu
   split at h
   ·obtain ⟨xs,hxs,h⟩:=Option.map_eq_some_iff.1 h
    simp only [Prod.mk.injEq] at h
    obtain ⟨rfl,_⟩:=h
    simp only [hu] at hq
    split at hq
    ·cases hq
    ·rename_i hne
     split at hq
     ·rename_i d hd
      rw [List.getElem?_map] at hd
      obtain ⟨x,hx,rfl⟩:=Option.map_eq_some_iff.1 hd
      have hl:=mapM_some_length hxs
      simp only [List.length_range] at hl
      have hlt:i / P.cellsOf e < xs.length:=(List.getElem?_eq_some_iff.1 hx).1
      have h1:=mapM_some_get hxs (i / P.cellsOf e) (i / P.cellsOf e) (List.getElem?_range (by omega))
      rw [hx] at h1
      obtain ⟨u,hu1,hu2⟩:=ih _ _ _ _ q _ dv h1 hq
      refine ⟨u,?_,hu2⟩
      rw [List.getElem?_take,if_pos (Nat.mod_lt _ (Nat.pos_of_ne_zero hne)),List.getElem?_drop,Nat.mul_comm] at hu1
      rwa [Nat.div_add_mod] at hu1
     ·cases hq
   ·cases h
  all_goals first | (cases h; done) | (clear h ih; simp_all; done) | (clear h ih; split at hq <;> simp_all; done)
end
def jW4 (P:Program) (laid:List (String × DataW Unit)) (p:Nat × List DV):Prop:=
 ∃ x t,x∈laid∧P.globalNamed x.1=some p.1∧(P.globals[p.1]?).map (·.type)=some t∧(List.range p.2.length).map (zHc P 6 t x.2)=p.2.map some
def jKn (P:Program) (laid:List (String × DataW Unit)) (g:Nat):Prop:=∃ x,x∈laid∧P.globalNamed x.1=some g∧∃ nm d,x.2=.iface nm d
def jGb (P:Program) (g:Nat):Prop:=∀ w:World,w.ShapedOpen P→∃ m,w.cell? ⟨g,0,none⟩=some (.int .i64 m)
theorem jQ1 {H:Type} {enc:TypeId × Value→H} {P:Program} {w:World} {sp:Nat→Bool} {va:Bool}:∀ {fuel:Nat} {t:TypeId} {cs:List Value} {nm:String} {d:DataW H} {ps:List MemPlace},DataW.trod enc P w 0 sp va fuel t cs=some (.iface nm d,ps)→∃ u v,cs=[.iface u v]:=by
 intro fuel t cs nm d ps h
 cases fuel with
 | zero=>simp [DataW.trod] at h
 | succ fuel=>
  unfold DataW.trod at h
  split at h
  all_goals first
   | exact ⟨_,_,rfl⟩
   |(simp at h; done)
   |(split at h <;> simp at h; done)
   |(exfalso; obtain ⟨x,_,h⟩:=Option.map_eq_some_iff.1 h; cases h; done)
   |(exfalso; split at h; (obtain ⟨x,_,h⟩:=Option.bind_eq_some_iff.1 h; obtain ⟨y,_,h⟩:=Option.map_eq_some_iff.1 h; cases h); cases h)
   |(exfalso; split at h; (split at h; (obtain ⟨x,_,h⟩:=Option.bind_eq_some_iff.1 h; simp only at h; split at h <;> cases h); cases h); cases h)
theorem zKv {P:Program} {w:World}:∀ {l:List (String × DataW Unit)} {ps:List MemPlace},DataW.LaidVars P w l ps→∀ x∈l,∃ g t cs fuel p,P.globalNamed x.1=some g∧(P.globals[g]?).map (·.type)=some t∧w.var? P x.1=some cs∧DataW.trod (fun _=>()) P w 0 (fun _=>true) false fuel t cs.toList=some (x.2,p)
 | [],_,_,x,hx=>by cases hx
 |(n,d)::r,ps,h,x,hx=>by
  obtain ⟨g,t,cs,fuel,p,q,h1,h2,h3,h4,h5,_⟩:=h
  rcases List.mem_cons.1 hx with rfl | hx
  ·exact ⟨g,t,cs,fuel,p,h1,h2,h3,h4⟩
  ·exact zKv h5 x hx
theorem jKZ {P:Program} {laid:List (String × DataW Unit)} {w:World} (hm:laidMetH P laid w) (hp:(laid.all fun x=>x.2.handleName?.isNone)=true) (ht:∀ p∈zKF,jW4 P laid p) (hs:∀ g∈zJF,jKn P laid g) (hi:∀ g∈zK6,∃ m,w.cell? ⟨g,0,none⟩=some (.int .i64 m)):zXK w (fun _=>True):=by
 rw [MakeChecks.laidMetH_plain _ _ _ hp] at hm
 obtain ⟨ps,hl,_⟩:=hm
 refine ⟨fun p hp _=>?_,fun g hg=>⟨trivial,?_⟩,fun g hg=>⟨trivial,hi g hg⟩⟩
 rotate_left
 ·obtain ⟨x,hx,h1,nm,d,hd⟩:=hs g hg
  obtain ⟨g',t',cs,fuel,q,g1,g2,g3,g4⟩:=zKv hl x hx
  rw [g1] at h1; injection h1 with h1; subst h1
  rw [hd] at g4
  obtain ⟨u,v,hc⟩:=jQ1 g4
  refine ⟨u,v,?_⟩
  rw [World.var?_cell g1 g3 0,← Array.getElem?_toList,hc]
  rfl
 obtain ⟨x,t,hx,h1,h2,h3⟩:=ht p hp
 obtain ⟨g,t',cs,fuel,q,g1,g2,g3,g4⟩:=zKv hl x hx
 rw [g1] at h1; injection h1 with h1; subst h1
 rw [g2] at h2; injection h2 with h2; subst h2
 refine ⟨trivial,RepCells.of_at fun i d hi=>?_⟩
 have hlt:i < p.2.length:=(List.getElem?_eq_some_iff.1 hi).1
 have h4:((List.range p.2.length).map (zHc P 6 t' x.2))[i]?=(p.2.map some)[i]?:=by rw [h3]
 rw [List.getElem?_map,List.getElem?_range hlt,List.getElem?_map,hi] at h4
 simp only [Option.map_some,Option.some.injEq] at h4
 obtain ⟨u,hu1,hu2⟩:=jXk (V:=fun _=>True) fuel t' cs.toList x.2 q 6 i d g4 h4
 refine ⟨u,?_,hu2⟩
 rw [Nat.zero_add,World.var?_cell g1 g3 i,← Array.getElem?_toList]
 exact hu1
theorem jQU {H:Type} {enc:TypeId × Value→H} {C:Checked} {os:Os} {f:FuncId} {fn:Func} {s:ChangeSpec} {tb:TypeId} {laid:List (String × DataW Unit)}
  (own:ownKnob C.prog.godebug=none) (started:os.Started) (noInit:C.prog.inits.idxOf? f=none) (hfn:C.prog.funcs[f]?=some fn)
  (witness:∃ (w:World) (tape:Tape) (i:Input),w.os=os∧(w.forCall tape i).Shaped C.prog∧i.vars=[]∧Input.okWide C.prog (w.forCall tape i) .any w.heap.size f i ∧
   ((s.pre enc C.prog fn [] false (w.forCall tape i).memory i.args∧laidMetH C.prog laid (w.forCall tape i).memory)∧sizedMet enc C.prog fn (OpenSpec.ofChange s) false (w.forCall tape i).memory i.args)∧({}:Assume).holds C.prog (lone (Frame.enter C.prog f i.args .normal) [] (w.forCall tape i)))
  (hspec:∀ ds:List (DataW H),ds.length=fn.params.toList.length→s.fn H ds={ results:=[.lit (.bool true)],args:=ds }) (hvars:s.vars=[])
  (hres:fn.resultTypes=#[tb]) (hb:C.prog.underlying tb=some .bool) (laidO:laidOutB C.prog=true)
  (hread:∀ t∈fn.params.toList,C.prog.readableRec t=true∧t < C.prog.types.size)
  (hp:(laid.all fun x=>x.2.handleName?.isNone)=true) (ht:∀ p∈zKF,jW4 C.prog laid p) (hsn:∀ g∈zJF,jKn C.prog laid g) (hin:∀ g∈zK6,jGb C.prog g)
  (walk:∀ (W:World) (args:Array Value),zXK W (fun _=>True)→Args C.prog W fn.params.toList args.toList→Calls C.prog f args W fun e W'=>e=.returned (.bool true)∧Below W.heap.size W W') :
  ReturnsInHanded {} C os f .any (fun w args=>(s.pre enc C.prog fn [] false w args∧laidMetH C.prog laid w)∧sizedMet enc C.prog fn (OpenSpec.ofChange s) false w args) (s.post enc C.prog fn false true false false):=by
 refine returnsInHanded_of_calls own started noInit witness ?_
 intro w0 tape i0 _ hshape _ hok hpre _
 obtain ⟨_,_,_,fn',hfn',_,_,_,_,hval⟩:=hok
 have efn:=Option.some.inj (hfn'.symm.trans hfn)
 subst efn
 obtain ⟨⟨⟨ds,gs,before,hW0,_⟩,hlaid0⟩,hz⟩:=hpre
 have hW:=DataW.Whole.of_heap (w':=w0.forCall tape i0) (by rfl) hW0
 have hsz:(DataW.weightsEach C.prog (fn'.params.toList++s.plain.varTypes C.prog) (ds++gs)).all (·≤reachBytes)=true:=hz.weights hW0
 have hlaid:laidMetH C.prog laid (w0.forCall tape i0):=laidMetH.of_heap (w:=(w0.forCall tape i0).memory) (by rfl) hlaid0
 suffices h:Calls C.prog f i0.args (w0.forCall tape i0) fun e W'=>∃ v,e=.returned v∧s.post enc C.prog fn' false true false false (w0.forCall tape i0) i0.args v W' from
  h.mono fun e W' ⟨v,he,hp⟩=>by subst he; exact ChangeSpec.post_blind hp
 generalize w0.forCall tape i0=W at *
 generalize i0.args=args at *
 have hW':=hW
 obtain ⟨p,q,hA,hV,rfl,_,_⟩:=hW
 rw [hvars] at hV
 obtain ⟨rfl,rfl⟩:=trodVars_none hV
 have hvt:s.plain.varTypes C.prog=[]:=by simp [ChangeSpec.plain,DataSpec.varTypes,hvars]
 rw [hvt,List.append_nil,List.append_nil] at hsz
 obtain ⟨ha,hlen⟩:=zKL hA (fun n hn=>by simpa using List.all_eq_true.1 hsz n hn) (fun j t v ht hv=>zHb (hval j t v (by simpa using ht) (by simpa using hv)))
 refine (walk W args (jKZ hlaid hp ht hsn fun g hg=>hin g hg W hshape) ha).mono fun e W' ⟨he,bel⟩=>?_
 subst he
 have hs:=hspec ds hlen
 refine ⟨_,rfl,ds,[],p++[],[],p,[],hW',?_,?_,?_,bel.frame _,fun h=>by cases h⟩
 ·rw [List.append_nil,hs,hres]
  exact trodAll_mk1 (shut_bool hb _)
 ·rw [List.append_nil,hs]
  exact zV9 laidO bel hread hA
 ·rw [List.append_nil,hs,hvars]
  rfl
end Go.Proofs.YtheidkkebdhmkaaGreatDoor
namespace Go.Proofs.YtheidkkebdhmkaaGreatDoor
open Go.RowKit
set_option linter.unusedVariables false
set_option linter.unusedSimpArgs false
abbrev jQV:List (String × DataW Unit):=[("math/bits.deBruijn32tab", Rows.laid_math_bits_deBruijn32tab),("math/bits.deBruijn64tab", Rows.laid_math_bits_deBruijn64tab),("compositor/operator.rules", Rows.laid_compositor_operator_rules),("compositor/blend.names", Rows.laid_compositor_blend_names),("internal/strconv.uint64pow10", Rows.laid_internal_strconv_uint64pow10),("unicode/utf8.acceptRanges", Rows.laid_unicode_utf8_acceptRanges),("strconv.ErrRange", Rows.laid_strconv_ErrRange),("strconv.ErrSyntax", Rows.laid_strconv_ErrSyntax),("unicode/utf8.first", Rows.laid_unicode_utf8_first)]
set_option maxRecDepth 100000 in
theorem jUX:∀ p∈zKF,jW4 Tryz.prog jQV p:=by
 intro p hp
 simp only [zKF,List.mem_cons,List.not_mem_nil,or_false] at hp
 rcases hp with rfl | rfl | rfl | rfl | rfl | rfl
 ·exact ⟨("compositor/blend.names", Rows.laid_compositor_blend_names),151,(List.mem_cons_of_mem _ (List.mem_cons_of_mem _ (List.mem_cons_of_mem _ List.mem_cons_self))),by kernel_rfl,by kernel_rfl,by kernel_rfl⟩
 ·exact ⟨("compositor/operator.rules", Rows.laid_compositor_operator_rules),176,(List.mem_cons_of_mem _ (List.mem_cons_of_mem _ List.mem_cons_self)),by kernel_rfl,by kernel_rfl,by kernel_rfl⟩
 ·exact ⟨("internal/strconv.uint64pow10", Rows.laid_internal_strconv_uint64pow10),209,(List.mem_cons_of_mem _ (List.mem_cons_of_mem _ (List.mem_cons_of_mem _ (List.mem_cons_of_mem _ List.mem_cons_self)))),by kernel_rfl,by kernel_rfl,by kernel_rfl⟩
 ·exact ⟨("unicode/utf8.acceptRanges", Rows.laid_unicode_utf8_acceptRanges),222,(List.mem_cons_of_mem _ (List.mem_cons_of_mem _ (List.mem_cons_of_mem _ (List.mem_cons_of_mem _ (List.mem_cons_of_mem _ List.mem_cons_self))))),by kernel_rfl,by kernel_rfl,by kernel_rfl⟩
 ·exact ⟨("math/bits.deBruijn32tab", Rows.laid_math_bits_deBruijn32tab),227,List.mem_cons_self,by kernel_rfl,by kernel_rfl,by kernel_rfl⟩
 ·exact ⟨("math/bits.deBruijn64tab", Rows.laid_math_bits_deBruijn64tab),228,(List.mem_cons_of_mem _ List.mem_cons_self),by kernel_rfl,by kernel_rfl,by kernel_rfl⟩
set_option maxRecDepth 100000 in
theorem jW9:∀ g∈zJF,jKn Tryz.prog jQV g:=by
 intro g hg
 simp only [zJF,List.mem_cons,List.not_mem_nil,or_false] at hg
 rcases hg with rfl | rfl
 ·exact ⟨("strconv.ErrSyntax", Rows.laid_strconv_ErrSyntax),(List.mem_cons_of_mem _ (List.mem_cons_of_mem _ (List.mem_cons_of_mem _ (List.mem_cons_of_mem _ (List.mem_cons_of_mem _ (List.mem_cons_of_mem _ (List.mem_cons_of_mem _ List.mem_cons_self))))))),by kernel_rfl,_,_,rfl⟩
 ·exact ⟨("strconv.ErrRange", Rows.laid_strconv_ErrRange),(List.mem_cons_of_mem _ (List.mem_cons_of_mem _ (List.mem_cons_of_mem _ (List.mem_cons_of_mem _ (List.mem_cons_of_mem _ (List.mem_cons_of_mem _ List.mem_cons_self)))))),by kernel_rfl,_,_,rfl⟩
theorem jUz:∀ g∈zK6,jGb Tryz.prog g:=by
 intro g hg
 simp only [zK6,List.mem_cons,List.not_mem_nil,or_false] at hg
 subst hg
 exact fun w h=>cell_of_shapedOpen_int (t:=3) (zero:=#[.int .i64 0]) h (Nat.le_of_ble_eq_true (by kernel_rfl)) (by kernel_rfl) (by kernel_rfl) (by kernel_rfl) (by kernel_rfl) (by kernel_rfl)
theorem zH9:(jQV.all fun x=>x.2.handleName?.isNone)=true:=by kernel_rfl
set_option maxRecDepth 100000 in
theorem jWk (os:Os) (args:Array Value):laidMetH Tryz.prog jQV ((World.laidAll Tryz.prog os jQV).forCall (fun _ _=>0) ⟨#[],args,[]⟩).memory:=by
 rw [MakeChecks.laidMetH_plain _ _ _ zH9]
 exact laidMet_laidAll _ (by kernel_rfl) (by kernel_rfl)
end Go.Proofs.YtheidkkebdhmkaaGreatDoor
