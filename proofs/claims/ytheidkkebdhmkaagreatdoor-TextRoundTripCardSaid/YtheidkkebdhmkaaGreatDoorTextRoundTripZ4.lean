/-
  Part 4 of what TextRoundTrip rests on.
-/
import Derived.Test.YtheidkkebdhmkaaGreatDoorTextRoundTripZ3
import Derived.Test.YtheidkkebdhmkaaGreatDoorTextRoundTripZ2
import Derived.Tactics
import Derived.Tactics2
import Derived.Defers
import Derived.Recover
import Derived.WalkSmall
import Derived.Laws.Pointers
import Derived.Shelf.Strings.Builder1
import Derived.Shelf.Strconv.Atoi
import Derived.Shelf.Strconv.Itoa0
import Derived.Shelf.Strconv.Itoa1
import Derived.Shelf.LaysM
import Derived.Shelf.Strconv.Itoa2
import Derived.Shelf.Strconv.Itoa3
import Derived.Shelf.Strconv.AtoiErrFast
import Derived.Shelf.Strconv.ParseIntEmpty
import Derived.Shelf.Strconv.AtoiFail
import Derived.Shelf.Strconv.Clone
import Derived.Shelf.Strconv.SyntaxError
import Derived.Shelf.LaysC
import Derived.Shelf.Strconv.ToError
import Derived.Shelf.Strconv.Lower
import Derived.Shelf.Strconv.ParseUint10
import Derived.Shelf.Strconv.ParseUint10Empty
import Derived.Shelf.Strconv.ParseUint10Any
import Derived.Shelf.Strconv.ParseInt10
import Derived.Shelf.Strconv.AtoiLong
import Derived.Shelf.Strconv.AtoiInnerAll
import Derived.Shelf.Strconv.RangeError
import Derived.Shelf.Strconv.ToErrorRange
import Derived.Shelf.Strconv.AtoiAll
import Derived.Shelf.Strconv.ErrVarAll
import Derived.Shelf.Strings.Search1
import Derived.Shelf.Strings.Search2
import Derived.Shelf.Strings.Search3
import Derived.Shelf.Strings.Cut
import Derived.Shelf.Strings.Count
import Derived.Shelf.Strings.Shaped
import Derived.Shelf.Strings.Prefix
import Derived.Shelf.Strings.Split
import Derived.Shelf.Strings.SplitShaped
import Derived.Shelf.Unicode.DecodeSlow
import Derived.Test.YtheidkkebdhmkaaGreatDoorProg
import Derived.Lib.ItoaMem
import Derived.Lib.Walk
import Derived.BigCall
import Derived.BigGuard
namespace Go.Proofs.YtheidkkebdhmkaaGreatDoor
open Go.RowKit
set_option linter.unusedVariables false
set_option linter.unusedSimpArgs false
attribute [local irreducible] Ans AnsO AnsG AnsN AnsI
set_option maxRecDepth 4000
def jGf:Gam where
 pure:=fun f xs=>
  if f=14 then (match xs with | [.d (.int _ n),.d (.int _ k)]=>some (rJ ((modS n k))) | _=>none) else
  if f=47 then (match xs with | []=>some (RV.tup [RV.tup [rJ (37),rJ (5)]]) | [.agg [.int _ mood,.sl L xs],.d (.int _ n),.d (.int _ most)]=>some (RV.d (dS n.toNat (pxs (zQG mood L xs most n.toNat)))) | _=>none) else
  if f=22 then (match xs with | [.d (.int _ w),.d (.int _ h),.agg [.int _ c0,.int _ c1,.int _ c2,.int _ ca,.int _ cf]]=>let yy0:=(zQd w h ⟨c0,c1,c2,ca,cf⟩); some (RV.agg [DV.int .i64 (yy0.w),DV.int .i64 (yy0.h),DV.bool (yy0.so),DV.int .u16 ((yy0.c).a),DV.int .u16 ((yy0.c).b),DV.int .u16 ((yy0.c).c),DV.int .u16 ((yy0.c).al),DV.int .u16 ((yy0.c).f),DV.int .i64 ((yy0.p0).w),DV.int .i64 ((yy0.p0).h),DV.int .i64 ((yy0.p0).s),DV.sl ((yy0.p0).n) ((yy0.p0).xs),DV.int .i64 ((yy0.p1).w),DV.int .i64 ((yy0.p1).h),DV.int .i64 ((yy0.p1).s),DV.sl ((yy0.p1).n) ((yy0.p1).xs),DV.int .i64 ((yy0.p2).w),DV.int .i64 ((yy0.p2).h),DV.int .i64 ((yy0.p2).s),DV.sl ((yy0.p2).n) ((yy0.p2).xs),DV.int .i64 ((yy0.p3).w),DV.int .i64 ((yy0.p3).h),DV.int .i64 ((yy0.p3).s),DV.sl ((yy0.p3).n) ((yy0.p3).xs),DV.int .i64 ((yy0.p4).w),DV.int .i64 ((yy0.p4).h),DV.int .i64 ((yy0.p4).s),DV.sl ((yy0.p4).n) ((yy0.p4).xs)]) | _=>none) else
  none
 modes:=fun f=>
  if f=48 then some ([true,true,true],0,5) else
  none
 proc:=fun f xs bs=>
  if f=48 then (match xs,bs with | [AV.one (Cl.d (DV.int _ w)),AV.one (Cl.d (DV.int _ h)),AV.one (Cl.d (DV.sl n xs))],[]=>some ⟨AV.tup [AV.agg [cJ (((imOf w h (zQb xs)).w)),cJ (((imOf w h (zQb xs)).h)),Cl.d (dQ ((imOf w h (zQb xs)).so)),cK (((imOf w h (zQb xs)).c.a)),cK (((imOf w h (zQb xs)).c.b)),cK (((imOf w h (zQb xs)).c.c)),cK (((imOf w h (zQb xs)).c.al)),cK (((imOf w h (zQb xs)).c.f)),cJ (((imOf w h (zQb xs)).p0.w)),cJ (((imOf w h (zQb xs)).p0.h)),cJ (((imOf w h (zQb xs)).p0.s)),Cl.ref 0 ((imOf w h (zQb xs)).p0.n),cJ (((imOf w h (zQb xs)).p1.w)),cJ (((imOf w h (zQb xs)).p1.h)),cJ (((imOf w h (zQb xs)).p1.s)),Cl.ref 1 ((imOf w h (zQb xs)).p1.n),cJ (((imOf w h (zQb xs)).p2.w)),cJ (((imOf w h (zQb xs)).p2.h)),cJ (((imOf w h (zQb xs)).p2.s)),Cl.ref 2 ((imOf w h (zQb xs)).p2.n),cJ (((imOf w h (zQb xs)).p3.w)),cJ (((imOf w h (zQb xs)).p3.h)),cJ (((imOf w h (zQb xs)).p3.s)),Cl.ref 3 ((imOf w h (zQb xs)).p3.n),cJ (((imOf w h (zQb xs)).p4.w)),cJ (((imOf w h (zQb xs)).p4.h)),cJ (((imOf w h (zQb xs)).p4.s)),Cl.ref 4 ((imOf w h (zQb xs)).p4.n)],AV.one (Cl.d (dQ (ofOk w h n)))],[Bx.row 34 1 ((imOf w h (zQb xs)).p0.xs),Bx.row 34 1 ((imOf w h (zQb xs)).p1.xs),Bx.row 34 1 ((imOf w h (zQb xs)).p2.xs),Bx.row 34 1 ((imOf w h (zQb xs)).p3.xs),Bx.row 34 1 ((imOf w h (zQb xs)).p4.xs)],true⟩ | _,_=>none) else
  none
 iter:=fun f cs=>
  none
def zUL (pw ph so mood:Int) (L:Nat) (xs:List DV) (x0 y0 x1 y1 most:Int):Ann:=Ann.leaf
theorem jYt (pw ph so mood:Int) (L:Nat) (xs:List DV) (x0 y0 x1 y1 most:Int):vcg Tryz.prog jGf 60 (zQA Tryz.f21) (zUL pw ph so mood L xs x0 y0 x1 y1 most) kn0 (zQ0 [RV.agg [dJ pw,dJ ph,dJ so,dJ mood,dS L xs],RV.agg [dJ x0,dJ y0,dJ x1,dJ y1],RV.d (dK most)]) (post Tryz.prog Tryz.f21.results.toList (·=RV.agg [dJ ((zQI pw ph so mood L xs x0 y0 x1 y1 most).w),dJ ((zQI pw ph so mood L xs x0 y0 x1 y1 most).h),dQ ((zQI pw ph so mood L xs x0 y0 x1 y1 most).so),dK (((zQI pw ph so mood L xs x0 y0 x1 y1 most).c).a),dK (((zQI pw ph so mood L xs x0 y0 x1 y1 most).c).b),dK (((zQI pw ph so mood L xs x0 y0 x1 y1 most).c).c),dK (((zQI pw ph so mood L xs x0 y0 x1 y1 most).c).al),dK (((zQI pw ph so mood L xs x0 y0 x1 y1 most).c).f),dJ (((zQI pw ph so mood L xs x0 y0 x1 y1 most).p0).w),dJ (((zQI pw ph so mood L xs x0 y0 x1 y1 most).p0).h),dJ (((zQI pw ph so mood L xs x0 y0 x1 y1 most).p0).s),dS (((zQI pw ph so mood L xs x0 y0 x1 y1 most).p0).n) (((zQI pw ph so mood L xs x0 y0 x1 y1 most).p0).xs),dJ (((zQI pw ph so mood L xs x0 y0 x1 y1 most).p1).w),dJ (((zQI pw ph so mood L xs x0 y0 x1 y1 most).p1).h),dJ (((zQI pw ph so mood L xs x0 y0 x1 y1 most).p1).s),dS (((zQI pw ph so mood L xs x0 y0 x1 y1 most).p1).n) (((zQI pw ph so mood L xs x0 y0 x1 y1 most).p1).xs),dJ (((zQI pw ph so mood L xs x0 y0 x1 y1 most).p2).w),dJ (((zQI pw ph so mood L xs x0 y0 x1 y1 most).p2).h),dJ (((zQI pw ph so mood L xs x0 y0 x1 y1 most).p2).s),dS (((zQI pw ph so mood L xs x0 y0 x1 y1 most).p2).n) (((zQI pw ph so mood L xs x0 y0 x1 y1 most).p2).xs),dJ (((zQI pw ph so mood L xs x0 y0 x1 y1 most).p3).w),dJ (((zQI pw ph so mood L xs x0 y0 x1 y1 most).p3).h),dJ (((zQI pw ph so mood L xs x0 y0 x1 y1 most).p3).s),dS (((zQI pw ph so mood L xs x0 y0 x1 y1 most).p3).n) (((zQI pw ph so mood L xs x0 y0 x1 y1 most).p3).xs),dJ (((zQI pw ph so mood L xs x0 y0 x1 y1 most).p4).w),dJ (((zQI pw ph so mood L xs x0 y0 x1 y1 most).p4).h),dJ (((zQI pw ph so mood L xs x0 y0 x1 y1 most).p4).s),dS (((zQI pw ph so mood L xs x0 y0 x1 y1 most).p4).n) (((zQI pw ph so mood L xs x0 y0 x1 y1 most).p4).xs)])) =
 (let yy0:=((modS so (2:Int))==(0:Int)); let zz0:=(wK (Int.tdiv pw (5:Int))); let zz1:=[dJ mood,dS L xs]; let zz2:=(wK (x1 - x0)); let zz3:=(wK (y1 - y0)); let zz4:=(wK (zz2*zz3)); let zz5:=(zz4.toNat); let zz6:=(pxs (zQG mood L xs most zz4.toNat)); let zz7:=(Ans Tryz.prog 14 [rJ (so),rJ (2)] (rJ ((modS so (2:Int))))); let zz8:=(dJ zz2); let zz9:=(dJ zz3); let zz10:=(imR (zQd zz2 zz3 ⟨(nAt zz6 0),(nAt zz6 1),(nAt zz6 2),(nAt zz6 3),(nAt zz6 4)⟩)); let zz11:=(imR (zQI pw ph so mood L xs x0 y0 x1 y1 most)); let zz12:=(wK ((1:Int)+(modS pw (5:Int)))); let zz13:=(wK ((1:Int)+(modS ph (4:Int)))); let zz14:=(wK (zz12*zz13)); let zz15:=(zz14.toNat); let zz16:=(pxs (zQG mood L xs most zz14.toNat)); let zz17:=(dJ zz12); let zz18:=(dJ zz13); let zz19:=(imR (zQd zz12 zz13 ⟨(nAt zz16 0),(nAt zz16 1),(nAt zz16 2),(nAt zz16 3),(nAt zz16 4)⟩)); tU5 ((Ans Tryz.prog 14 [rJ (pw),rJ (5)] (rJ ((modS pw (5:Int)))))∧tU3 ((Ans Tryz.prog 14 [rJ (ph),rJ (4)] (rJ ((modS ph (4:Int)))))∧tU3 ((true=true)∧tU2 (((5:Int)≠0)∧(Ans Tryz.prog 14 [rJ (zz0),rJ (3)] (rJ ((modS zz0 (3:Int)))))∧True∧((((modS zz0 (3:Int))==(0:Int))=true→tU4 (tU8 ((true=true)∧tU6 ((AnsO Tryz.prog 47 [RV.agg zz1,rJ (zz4),RV.d (dK most)] 37 5 zz5 zz6)∧tU3 (zz7∧True∧((yy0=true→tU3 ((0≤(0:Int)∧(0:Int) < (zz4.toNat:Int))∧((zz6[0]?=some (dK (nAt zz6 0)))∧(zz6[1]?=some (dK (nAt zz6 1)))∧(zz6[2]?=some (dK (nAt zz6 2)))∧(zz6[3]?=some (dK (nAt zz6 3)))∧(zz6[4]?=some (dK (nAt zz6 4)))∧True)∧(Ans Tryz.prog 22 [RV.d zz8,RV.d zz9,RV.agg [dK (nAt zz6 0),dK (nAt zz6 1),dK (nAt zz6 2),dK (nAt zz6 3),dK (nAt zz6 4)]] (zz10))∧True∧zz10=zz11))∧(yy0=false→tU3 ((AnsG Tryz.prog 48 0 [AV.one (Cl.d zz8),AV.one (Cl.d zz9),AV.one (Cl.d (dS zz5 zz6))] [] ⟨AV.tup [(imV 0 (imOf zz2 zz3 (zQb zz6))),AV.one (Cl.d (dQ (ofOk zz2 zz3 zz5)))],(imB 34 (imOf zz2 zz3 (zQb zz6))),true⟩)∧tU8 ((imR (imOf zz2 zz3 (zQb zz6)))=zz11)))))))))∧(((modS zz0 (3:Int))==(0:Int))=false→tU6 ((AnsO Tryz.prog 47 [RV.agg zz1,rJ (zz14),RV.d (dK most)] 37 5 zz15 zz16)∧tU3 (zz7∧True∧((yy0=true→tU3 ((0≤(0:Int)∧(0:Int) < (zz14.toNat:Int))∧((zz16[0]?=some (dK (nAt zz16 0)))∧(zz16[1]?=some (dK (nAt zz16 1)))∧(zz16[2]?=some (dK (nAt zz16 2)))∧(zz16[3]?=some (dK (nAt zz16 3)))∧(zz16[4]?=some (dK (nAt zz16 4)))∧True)∧(Ans Tryz.prog 22 [RV.d zz17,RV.d zz18,RV.agg [dK (nAt zz16 0),dK (nAt zz16 1),dK (nAt zz16 2),dK (nAt zz16 3),dK (nAt zz16 4)]] (zz19))∧True∧zz19=zz11))∧(yy0=false→tU3 ((AnsG Tryz.prog 48 0 [AV.one (Cl.d zz17),AV.one (Cl.d zz18),AV.one (Cl.d (dS zz15 zz16))] [] ⟨AV.tup [(imV 0 (imOf zz12 zz13 (zQb zz16))),AV.one (Cl.d (dQ (ofOk zz12 zz13 zz15)))],(imB 34 (imOf zz12 zz13 (zQb zz16))),true⟩)∧tU8 ((imR (imOf zz12 zz13 (zQb zz16)))=zz11))))))))))))):=by kernel_rfl
theorem jXC (pw ph so mood:Int) (L:Nat) (xs:List DV) (x0 y0 x1 y1 most:Int) (hx:Is5 L xs) (hc:1≤x1 - x0∧x1 - x0≤100∧1≤y1 - y0∧y1 - y0≤100):Ans Tryz.prog 21 [RV.agg [DV.int .i64 pw,DV.int .i64 ph,DV.int .i64 so,DV.int .i64 mood,DV.sl L xs],RV.agg [DV.int .i64 x0,DV.int .i64 y0,DV.int .i64 x1,DV.int .i64 y1],RV.d (DV.int .u16 most)] (RV.agg [DV.int .i64 ((zQI pw ph so mood L xs x0 y0 x1 y1 most).w),DV.int .i64 ((zQI pw ph so mood L xs x0 y0 x1 y1 most).h),DV.bool ((zQI pw ph so mood L xs x0 y0 x1 y1 most).so),DV.int .u16 (((zQI pw ph so mood L xs x0 y0 x1 y1 most).c).a),DV.int .u16 (((zQI pw ph so mood L xs x0 y0 x1 y1 most).c).b),DV.int .u16 (((zQI pw ph so mood L xs x0 y0 x1 y1 most).c).c),DV.int .u16 (((zQI pw ph so mood L xs x0 y0 x1 y1 most).c).al),DV.int .u16 (((zQI pw ph so mood L xs x0 y0 x1 y1 most).c).f),DV.int .i64 (((zQI pw ph so mood L xs x0 y0 x1 y1 most).p0).w),DV.int .i64 (((zQI pw ph so mood L xs x0 y0 x1 y1 most).p0).h),DV.int .i64 (((zQI pw ph so mood L xs x0 y0 x1 y1 most).p0).s),DV.sl (((zQI pw ph so mood L xs x0 y0 x1 y1 most).p0).n) (((zQI pw ph so mood L xs x0 y0 x1 y1 most).p0).xs),DV.int .i64 (((zQI pw ph so mood L xs x0 y0 x1 y1 most).p1).w),DV.int .i64 (((zQI pw ph so mood L xs x0 y0 x1 y1 most).p1).h),DV.int .i64 (((zQI pw ph so mood L xs x0 y0 x1 y1 most).p1).s),DV.sl (((zQI pw ph so mood L xs x0 y0 x1 y1 most).p1).n) (((zQI pw ph so mood L xs x0 y0 x1 y1 most).p1).xs),DV.int .i64 (((zQI pw ph so mood L xs x0 y0 x1 y1 most).p2).w),DV.int .i64 (((zQI pw ph so mood L xs x0 y0 x1 y1 most).p2).h),DV.int .i64 (((zQI pw ph so mood L xs x0 y0 x1 y1 most).p2).s),DV.sl (((zQI pw ph so mood L xs x0 y0 x1 y1 most).p2).n) (((zQI pw ph so mood L xs x0 y0 x1 y1 most).p2).xs),DV.int .i64 (((zQI pw ph so mood L xs x0 y0 x1 y1 most).p3).w),DV.int .i64 (((zQI pw ph so mood L xs x0 y0 x1 y1 most).p3).h),DV.int .i64 (((zQI pw ph so mood L xs x0 y0 x1 y1 most).p3).s),DV.sl (((zQI pw ph so mood L xs x0 y0 x1 y1 most).p3).n) (((zQI pw ph so mood L xs x0 y0 x1 y1 most).p3).xs),DV.int .i64 (((zQI pw ph so mood L xs x0 y0 x1 y1 most).p4).w),DV.int .i64 (((zQI pw ph so mood L xs x0 y0 x1 y1 most).p4).h),DV.int .i64 (((zQI pw ph so mood L xs x0 y0 x1 y1 most).p4).s),DV.sl (((zQI pw ph so mood L xs x0 y0 x1 y1 most).p4).n) (((zQI pw ph so mood L xs x0 y0 x1 y1 most).p4).xs)]):=
 zQo (Γ:=jGf) (zUL pw ph so mood L xs x0 y0 x1 y1 most) zQC Tryz.func21 rfl (Nat.le_of_ble_eq_true rfl) fun hwf=>by
  refine Eq.mpr (jYt pw ph so mood L xs x0 y0 x1 y1 most) ?_
  delta tU2 tU3 tU4 tU5 tU6 tU8 dJ dK dQ wK dS rJ
  simp only [true_and,and_true,RV.d.injEq,RV.agg.injEq,RV.tup.injEq,DV.bool.injEq,DV.int.injEq,DV.sl.injEq,List.cons.injEq,forall_const,Bool.not_false,Bool.not_true,Bool.not_eq_true',Bool.not_eq_false',decide_eq_true_eq,decide_eq_false_iff_not,Int.toNat_natCast,zQK]
  have go:∀ W H:Int,(1≤W∧W≤100)→(1≤H∧H≤100)→0 < (IntKind.wrap .i64 (W*H)).toNat∧IntKind.wrap .i64 (W*H)≤16777216:=fun W H a b=>by have:=jZo a b; omega
  have b5:=@zZB pw 5 (by omega) (by omega)
  have b4:=@zZB ph 4 (by omega) (by omega)
  refine ⟨by omega,fun q1=>?_,fun q1=>?_⟩
  ·have hW:zYm pw 5 x0 x1 pw=IntKind.wrap .i64 (x1 - x0):=by unfold zYm; rw [if_pos (by simpa using q1)]
   have hH:zYm ph 4 y0 y1 pw=IntKind.wrap .i64 (y1 - y0):=by unfold zYm; rw [if_pos (by simpa using q1)]
   have gi:=zWE pw ph so mood L xs x0 y0 x1 y1 most _ _ hW hH
   have cW:1≤IntKind.wrap .i64 (x1 - x0)∧IntKind.wrap .i64 (x1 - x0)≤100:=by rw [IntWalk.i64_in _ ⟨by omega,by omega⟩]; omega
   have cH:1≤IntKind.wrap .i64 (y1 - y0)∧IntKind.wrap .i64 (y1 - y0)≤100:=by rw [IntWalk.i64_in _ ⟨by omega,by omega⟩]; omega
   generalize IntKind.wrap .i64 (x1 - x0)=W at *
   generalize IntKind.wrap .i64 (y1 - y0)=H at *
   obtain ⟨g1,g2⟩:=go W H cW cH
   have pn:=zUJ mood L xs (IntKind.wrap .i64 (W*H)) most hx g2
   refine ⟨pn,fun q2=>?_,fun q2=>?_⟩
   ·have hs:modS so 2=0:=by simpa using q2
    rw [if_pos hs] at gi
    obtain ⟨v0,v1,v2,v3,v4⟩:=zUA (mood:=mood) (L:=L) (xs:=xs) (most:=most) g1
    have f0:=zJY (mood:=mood) (L:=L) (xs:=xs) (most:=most) g1 0 (by omega)
    have f1:=zJY (mood:=mood) (L:=L) (xs:=xs) (most:=most) g1 1 (by omega)
    have f2:=zJY (mood:=mood) (L:=L) (xs:=xs) (most:=most) g1 2 (by omega)
    have f3:=zJY (mood:=mood) (L:=L) (xs:=xs) (most:=most) g1 3 (by omega)
    have f4:=zJY (mood:=mood) (L:=L) (xs:=xs) (most:=most) g1 4 (by omega)
    have g3:0 < IntKind.wrap .i64 (W*H):=by omega
    rw [gi]
    simp only [v0,v1,v2,v3,v4] at f0 f1 f2 f3 f4 ⊢
    exact ⟨⟨by omega,by omega⟩,⟨f0,f1,f2,f3,f4⟩,zKP W H ⟨_,_,_,_,_⟩,trivial⟩
   ·have hs:¬ modS so 2=0:=by simpa using q2
    rw [if_neg hs] at gi
    rw [gi]
    have po:=zVD W H _ (pxs (zQG mood L xs most (IntKind.wrap .i64 (W*H)).toNat)) (jQf _ _ _ _ rfl)
    simp only [zZg] at po ⊢
    exact ⟨po,trivial⟩
  ·have hW:zYm pw 5 x0 x1 pw=IntKind.wrap .i64 (1+modS pw 5):=by unfold zYm; rw [if_neg (by simpa using q1)]
   have hH:zYm ph 4 y0 y1 pw=IntKind.wrap .i64 (1+modS ph 4):=by unfold zYm; rw [if_neg (by simpa using q1)]
   have gi:=zWE pw ph so mood L xs x0 y0 x1 y1 most _ _ hW hH
   have cW:1≤IntKind.wrap .i64 (1+modS pw 5)∧IntKind.wrap .i64 (1+modS pw 5)≤100:=by rw [IntWalk.i64_in _ ⟨by omega,by omega⟩]; omega
   have cH:1≤IntKind.wrap .i64 (1+modS ph 4)∧IntKind.wrap .i64 (1+modS ph 4)≤100:=by rw [IntWalk.i64_in _ ⟨by omega,by omega⟩]; omega
   generalize IntKind.wrap .i64 (1+modS pw 5)=W at *
   generalize IntKind.wrap .i64 (1+modS ph 4)=H at *
   obtain ⟨g1,g2⟩:=go W H cW cH
   have pn:=zUJ mood L xs (IntKind.wrap .i64 (W*H)) most hx g2
   refine ⟨pn,fun q2=>?_,fun q2=>?_⟩
   ·have hs:modS so 2=0:=by simpa using q2
    rw [if_pos hs] at gi
    obtain ⟨v0,v1,v2,v3,v4⟩:=zUA (mood:=mood) (L:=L) (xs:=xs) (most:=most) g1
    have f0:=zJY (mood:=mood) (L:=L) (xs:=xs) (most:=most) g1 0 (by omega)
    have f1:=zJY (mood:=mood) (L:=L) (xs:=xs) (most:=most) g1 1 (by omega)
    have f2:=zJY (mood:=mood) (L:=L) (xs:=xs) (most:=most) g1 2 (by omega)
    have f3:=zJY (mood:=mood) (L:=L) (xs:=xs) (most:=most) g1 3 (by omega)
    have f4:=zJY (mood:=mood) (L:=L) (xs:=xs) (most:=most) g1 4 (by omega)
    have g3:0 < IntKind.wrap .i64 (W*H):=by omega
    rw [gi]
    simp only [v0,v1,v2,v3,v4] at f0 f1 f2 f3 f4 ⊢
    exact ⟨⟨by omega,by omega⟩,⟨f0,f1,f2,f3,f4⟩,zKP W H ⟨_,_,_,_,_⟩,trivial⟩
   ·have hs:¬ modS so 2=0:=by simpa using q2
    rw [if_neg hs] at gi
    rw [gi]
    have po:=zVD W H _ (pxs (zQG mood L xs most (IntKind.wrap .i64 (W*H)).toNat)) (jQf _ _ _ _ rfl)
    simp only [zZg] at po ⊢
    exact ⟨po,trivial⟩
end Go.Proofs.YtheidkkebdhmkaaGreatDoor
namespace Go.Proofs.YtheidkkebdhmkaaGreatDoor
open Go.RowKit
set_option linter.unusedVariables false
set_option linter.unusedSimpArgs false
attribute [local irreducible] Ans AnsO AnsG AnsN AnsI
set_option maxRecDepth 4000
def jGe:Gam where
 pure:=fun f xs=>
  if f=14 then (match xs with | [.d (.int _ n),.d (.int _ k)]=>some (rJ ((modS n k))) | _=>none) else
  if f=18 then (match xs with | [.d (.int _ n)]=>some (RV.d (dK (gMax n))) | _=>none) else
  if f=21 then (match xs with | [.agg [.int _ pw,.int _ ph,.int _ so,.int _ mood,.sl L xs],.agg [.int _ x0,.int _ y0,.int _ x1,.int _ y1],.d (.int _ most)]=>let yy0:=(zQI pw ph so mood L xs x0 y0 x1 y1 most); some (RV.agg [DV.int .i64 (yy0.w),DV.int .i64 (yy0.h),DV.bool (yy0.so),DV.int .u16 ((yy0.c).a),DV.int .u16 ((yy0.c).b),DV.int .u16 ((yy0.c).c),DV.int .u16 ((yy0.c).al),DV.int .u16 ((yy0.c).f),DV.int .i64 ((yy0.p0).w),DV.int .i64 ((yy0.p0).h),DV.int .i64 ((yy0.p0).s),DV.sl ((yy0.p0).n) ((yy0.p0).xs),DV.int .i64 ((yy0.p1).w),DV.int .i64 ((yy0.p1).h),DV.int .i64 ((yy0.p1).s),DV.sl ((yy0.p1).n) ((yy0.p1).xs),DV.int .i64 ((yy0.p2).w),DV.int .i64 ((yy0.p2).h),DV.int .i64 ((yy0.p2).s),DV.sl ((yy0.p2).n) ((yy0.p2).xs),DV.int .i64 ((yy0.p3).w),DV.int .i64 ((yy0.p3).h),DV.int .i64 ((yy0.p3).s),DV.sl ((yy0.p3).n) ((yy0.p3).xs),DV.int .i64 ((yy0.p4).w),DV.int .i64 ((yy0.p4).h),DV.int .i64 ((yy0.p4).s),DV.sl ((yy0.p4).n) ((yy0.p4).xs)]) | _=>none) else
  if f=23 then (match xs with | [.agg [.int _ vk,.int _ vim,.int _ vx,.int _ vy,.int _ vma,.int _ vmx,.int _ vmy,.int _ vop,.int _ vope,.int _ vmo,.int _ vfl],.d (.bool push),.d (.int _ imgs),.agg [.int _ ca,.int _ cb,.int _ cc,.int _ cd],.d (.bool free),.d (.int _ most)]=>let yy0:=(gOp ⟨vk,vim,vx,vy,vma,vmx,vmy,vop,vope,vmo,vfl⟩ push imgs ⟨ca,cb,cc,cd⟩ free most); some (RV.agg [DV.int .i64 (yy0.kind),DV.int .i64 (yy0.image),DV.int .i64 (yy0.x),DV.int .i64 (yy0.y),DV.int .i64 (yy0.mask),DV.int .i64 (yy0.mx),DV.int .i64 (yy0.my),DV.int .u16 (yy0.opac),DV.int .i64 (yy0.oper),DV.int .i64 (yy0.mode),DV.bool (yy0.iso),DV.bool (yy0.kno)]) | _=>none) else
  if f=20 then (match xs with | []=>some (RV.tup [RV.tup [rJ (3),rJ (1)]]) | [.d (.sl n xs),.d (.int _ m)]=>some (RV.d (dS ((zXj (ints xs) m).length) (is (zXj (ints xs) m)))) | _=>none) else
  if f=19 then (match xs with | [.agg [.int _ a,.int _ b,.int _ c,.int _ d],.d (.int _ w),.d (.int _ h)]=>some (RV.tup [rJ (((cntS ⟨a,b,c,d⟩ w h).1)),rJ (((cntS ⟨a,b,c,d⟩ w h).2.1)),RV.d (dQ ((cntS ⟨a,b,c,d⟩ w h).2.2))]) | _=>none) else
  if f=22 then (match xs with | [.d (.int _ w),.d (.int _ h),.agg [.int _ c0,.int _ c1,.int _ c2,.int _ ca,.int _ cf]]=>let yy0:=(zQd w h ⟨c0,c1,c2,ca,cf⟩); some (RV.agg [DV.int .i64 (yy0.w),DV.int .i64 (yy0.h),DV.bool (yy0.so),DV.int .u16 ((yy0.c).a),DV.int .u16 ((yy0.c).b),DV.int .u16 ((yy0.c).c),DV.int .u16 ((yy0.c).al),DV.int .u16 ((yy0.c).f),DV.int .i64 ((yy0.p0).w),DV.int .i64 ((yy0.p0).h),DV.int .i64 ((yy0.p0).s),DV.sl ((yy0.p0).n) ((yy0.p0).xs),DV.int .i64 ((yy0.p1).w),DV.int .i64 ((yy0.p1).h),DV.int .i64 ((yy0.p1).s),DV.sl ((yy0.p1).n) ((yy0.p1).xs),DV.int .i64 ((yy0.p2).w),DV.int .i64 ((yy0.p2).h),DV.int .i64 ((yy0.p2).s),DV.sl ((yy0.p2).n) ((yy0.p2).xs),DV.int .i64 ((yy0.p3).w),DV.int .i64 ((yy0.p3).h),DV.int .i64 ((yy0.p3).s),DV.sl ((yy0.p3).n) ((yy0.p3).xs),DV.int .i64 ((yy0.p4).w),DV.int .i64 ((yy0.p4).h),DV.int .i64 ((yy0.p4).s),DV.sl ((yy0.p4).n) ((yy0.p4).xs)]) | _=>none) else
  none
 modes:=fun f=>
  none
 proc:=fun f xs bs=>
  none
 iter:=fun f cs=>
  none
def zUH (s:Scn):Ann:=let zz0:=(3,AV.one (cK (s.most))); let zz1:=[(1,AV.one (Cl.ptr 1 0)),(2,AV.one (Cl.ptr 2 0)),zz0,(4,AV.one (Cl.ptr 4 0))]; let zz2:=(1,bC [cJ (s.b),cJ (s.x),cJ (s.y),cJ (s.w),cJ (s.h),cJ (s.tw),cJ (s.th),Cl.d (dS s.on s.oxs),Cl.d (dS s.pn s.pxs),Cl.d (dS s.rn s.rxs)]); let zz3:=(2,bC [cJ (0),cJ (0),cJ (0),cJ (0),cJ (0),cJ (0),cJ (0),Cl.nil,Cl.nil,Cl.nil]); let zz4:=[zz2,zz3,(4,bC [cJ (s.bits),cJ (0),cJ (0),cJ (0),cJ (0),cJ (0),cJ (0),Cl.nil,Cl.nil,Cl.nil])]; let zz5:=(7,aJ ((s.gw))); let zz6:=(8,aJ ((s.gh))); let zz7:=[(1,AV.one (Cl.ptr 1 0)),(2,AV.one (Cl.ptr 2 0)),zz0,(4,AV.one (Cl.ptr 4 0)),zz5,zz6]; let zz8:=(7000,Bx.row 3 1 (is s.ord)); let zz9:=(5000,Bx.row 43 28 (ims s.ims)); let zz10:=(13,AV.one (Cl.ref 5002 ((s.run (min s.rn 9)).2.length))); let zz11:=(5002,Bx.row 51 12 (ops (s.run (min s.rn 9)).2)); let zz12:=fun (k:Nat)=>(13,AV.one (Cl.ref 5002 ((s.run k).2.length))); let zz13:=fun (k:Nat)=>(14,aJ (((k:Int)))); let zz14:=fun (k:Nat)=>(4,bC [cJ (s.bits),cJ (s.c.a),cJ (s.c.b),cJ (s.c.c),cJ (s.c.d),cJ (s.gtw),cJ (s.gth),Cl.ref 7000 s.ord.length,Cl.ref 5000 s.ims.length,Cl.ref 5001 ((s.run k).1.length)]); let zz15:=fun (k:Nat)=>(5002,Bx.row 51 12 (ops (s.run k).2)); let zz16:=fun (k:Nat)=>(5001,Bx.row 51 12 (ops (s.run k).1)); let zz17:=fun (k:Nat)=>[zz2,zz3,(zz14 k),(zz15 k),zz8,zz9,(zz16 k)]; let zz18:=fun (k:Nat)=>(15,aJ (((modS (nAt s.rxs ((k:Int).toNat*11+0)) (8:Int))))); (Ann.seq Ann.leaf (Ann.seq Ann.leaf (Ann.seq Ann.leaf (Ann.cut ⟨Unit,fun u1:Unit=>True,fun u1:Unit=>⟨zz1,zz4⟩,fun u1:Unit=>0⟩ Ann.leaf fun u1=>(Ann.seq Ann.leaf (Ann.cut ⟨Unit,fun u2:Unit=>True,fun u2:Unit=>⟨[(1,AV.one (Cl.ptr 1 0)),(2,AV.one (Cl.ptr 2 0)),zz0,(4,AV.one (Cl.ptr 4 0)),(5,aJ ((s.c.a))),(6,aJ ((s.c.b))),zz5,zz6],zz4⟩,fun u2:Unit=>0⟩ Ann.leaf fun u2=>(Ann.seq Ann.leaf (Ann.cut ⟨Unit,fun u3:Unit=>True,fun u3:Unit=>⟨zz7,[zz2,zz3,(4,bC [cJ (s.bits),cJ (s.c.a),cJ (s.c.b),cJ (s.c.c),cJ (s.c.d),cJ (s.gtw),cJ (s.gth),Cl.nil,Cl.nil,Cl.nil])]⟩,fun u3:Unit=>0⟩ Ann.leaf fun u3=>(Ann.seq Ann.leaf (Ann.cut ⟨Unit,fun u4:Unit=>True,fun u4:Unit=>⟨zz7,[zz2,zz3,(4,bC [cJ (s.bits),cJ (s.c.a),cJ (s.c.b),cJ (s.c.c),cJ (s.c.d),cJ (s.gtw),cJ (s.gth),Cl.ref 7000 s.ord.length,Cl.nil,Cl.nil]),zz8]⟩,fun u4:Unit=>0⟩ Ann.leaf fun u4=>(Ann.cut ⟨Unit,fun u6:Unit=>True,fun u6:Unit=>⟨zz7,[zz2,zz3,(4,bC [cJ (s.bits),cJ (s.c.a),cJ (s.c.b),cJ (s.c.c),cJ (s.c.d),cJ (s.gtw),cJ (s.gth),Cl.ref 7000 s.ord.length,Cl.ref 5000 ((s.pics (min s.pn 4)).length),Cl.nil]),zz8,(5000,Bx.row 43 28 (ims (s.pics (min s.pn 4))))]⟩,fun u6:Unit=>0⟩ (Ann.seq Ann.leaf (Ann.loop ⟨Nat,fun p=>p≤min s.pn 4,fun p=>⟨[(1,AV.one (Cl.ptr 1 0)),(2,AV.one (Cl.ptr 2 0)),zz0,(4,AV.one (Cl.ptr 4 0)),zz5,zz6,(12,aJ (((p:Int))))],[zz2,zz3,(4,bC [cJ (s.bits),cJ (s.c.a),cJ (s.c.b),cJ (s.c.c),cJ (s.c.d),cJ (s.gtw),cJ (s.gth),Cl.ref 7000 s.ord.length,Cl.ref 5000 p,Cl.nil]),zz8,(5000,Bx.row 43 28 (ims (s.pics p)))]⟩,fun p=>min s.pn 4 - p⟩ fun p=>Ann.leaf)) fun u6=>(Ann.cut ⟨Unit,fun u5:Unit=>True,fun u5:Unit=>⟨zz1,[zz2,zz3,(4,bC [cJ (s.bits),cJ (s.c.a),cJ (s.c.b),cJ (s.c.c),cJ (s.c.d),cJ (s.gtw),cJ (s.gth),Cl.ref 7000 s.ord.length,Cl.ref 5000 s.ims.length,Cl.nil]),zz8,zz9]⟩,fun u5:Unit=>0⟩ Ann.leaf fun u5=>(Ann.seq Ann.leaf (Ann.cut ⟨Unit,fun u7:Unit=>True,fun u7:Unit=>⟨[(2,AV.one (Cl.ptr 2 0)),(4,AV.one (Cl.ptr 4 0)),zz10],[zz3,(4,bC [cJ (s.bits),cJ (s.c.a),cJ (s.c.b),cJ (s.c.c),cJ (s.c.d),cJ (s.gtw),cJ (s.gth),Cl.ref 7000 s.ord.length,Cl.ref 5000 s.ims.length,Cl.ref 5001 ((s.run (min s.rn 9)).1.length)]),zz11,zz8,zz9,(5001,Bx.row 51 12 (ops (s.run (min s.rn 9)).1))]⟩,fun u7:Unit=>0⟩ (Ann.seq Ann.leaf (Ann.loop ⟨Nat,fun k=>k≤min s.rn 9,fun k=>⟨[(1,AV.one (Cl.ptr 1 0)),(2,AV.one (Cl.ptr 2 0)),zz0,(4,AV.one (Cl.ptr 4 0)),(zz12 k),(zz13 k)],(zz17 k)⟩,fun k=>min s.rn 9 - k⟩ fun k=>(Ann.seq Ann.leaf (Ann.seq (Ann.seq Ann.leaf (Ann.seq Ann.leaf (Ann.cut ⟨Unit,fun u8:Unit=>¬ (modS (rwAt s.rxs (k*11)).k 8=0∧0 < (s.run k).2.length),fun u8:Unit=>⟨[(1,AV.one (Cl.ptr 1 0)),(2,AV.one (Cl.ptr 2 0)),zz0,(4,AV.one (Cl.ptr 4 0)),(zz12 k),(zz13 k),(zz18 k),(16,aJ (((((s.run k).2.length:Nat):Int))))],(zz17 k)⟩,fun u8:Unit=>0⟩ Ann.leaf fun u8=>(Ann.cut ⟨Bool,fun fr:Bool=>fr=ctxB (s.run k).2,fun fr:Bool=>⟨[(1,AV.one (Cl.ptr 1 0)),(2,AV.one (Cl.ptr 2 0)),zz0,(4,AV.one (Cl.ptr 4 0)),(zz12 k),(zz13 k),(zz18 k),(17,AV.one (Cl.d (dQ fr)))],(zz17 k)⟩,fun fr:Bool=>0⟩ Ann.leaf fun fr=>(Ann.cut ⟨Oq,fun o:Oq=>o=gOp (rwAt s.rxs (k*11)) (decide (modS (rwAt s.rxs (k*11)).k 8 < 3)) s.ims.length s.c (ctxB (s.run k).2) s.most,fun o:Oq=>⟨[(1,AV.one (Cl.ptr 1 0)),(2,AV.one (Cl.ptr 2 0)),zz0,(4,AV.one (Cl.ptr 4 0)),(zz12 k),(zz13 k),(18,AV.one (Cl.ptr 18 0))],[zz2,zz3,(zz14 k),(zz15 k),(18,bC [cJ (o.kind),cJ (o.image),cJ (o.x),cJ (o.y),cJ (o.mask),cJ (o.mx),cJ (o.my),cK (o.opac),cJ (o.oper),cJ (o.mode),Cl.d (dQ o.iso),Cl.d (dQ o.kno)]),zz8,zz9,(zz16 k)]⟩,fun o:Oq=>0⟩ Ann.leaf fun o=>Ann.leaf))))) Ann.leaf)))) fun u7=>(Ann.seq (Ann.seq Ann.leaf (Ann.loop ⟨Nat,fun j=>j≤(s.run (min s.rn 9)).2.length,fun j=>⟨[(2,AV.one (Cl.ptr 2 0)),(4,AV.one (Cl.ptr 4 0)),zz10,(19,aJ (((j:Int))))],[zz3,(4,bC [cJ (s.bits),cJ (s.c.a),cJ (s.c.b),cJ (s.c.c),cJ (s.c.d),cJ (s.gtw),cJ (s.gth),Cl.ref 7000 s.ord.length,Cl.ref 5000 s.ims.length,Cl.ref 5001 (((s.run (min s.rn 9)).1++List.replicate j popO).length)]),zz11,zz8,zz9,(5001,Bx.row 51 12 (ops ((s.run (min s.rn 9)).1++List.replicate j popO)))]⟩,fun j=>(s.run (min s.rn 9)).2.length - j⟩ fun j=>Ann.leaf)) Ann.leaf)))))))))))))))
theorem jYq (s:Scn):vcg Tryz.prog jGe ⟨221,fun _=>false,List.range 0,false⟩ (zQA Tryz.f9) (zUH s) kn0 (zZc [AV.agg [cJ (s.b),cJ (s.x),cJ (s.y),cJ (s.w),cJ (s.h),cJ (s.tw),cJ (s.th),Cl.d (dS s.on s.oxs),Cl.d (dS s.pn s.pxs),Cl.d (dS s.rn s.rxs)]] []) (zZJ Tryz.prog ⟨221,fun _=>false,List.range 0,false⟩ Tryz.f9.results.toList ⟨AV.agg [cJ (((s).bits)),cJ (((s).c.a)),cJ (((s).c.b)),cJ (((s).c.c)),cJ (((s).c.d)),cJ (((s).gtw)),cJ (((s).gth)),Cl.ref 0 ((s).ord.length),Cl.ref 1 ((s).ims.length),Cl.ref 2 ((s).ops.length)],[Bx.row 3 1 (is (s).ord),Bx.row 43 28 (ims (s).ims),Bx.row 51 12 (ops (s).ops)],false⟩) =
 (let yy0:=([dJ 3,dJ 0,dJ 0,dJ 0,dJ 0,dJ 0,dJ 0,dK 0,dJ 0,dJ 0,dQ false,dQ false]); let zz0:=((0=0)∧(0=0)∧(dK (gMax s.b)=dK s.most)∧(0=0)∧True); let zz1:=[dJ s.b,dJ s.x,dJ s.y,dJ s.w,dJ s.h,dJ s.tw,dJ s.th,dS s.on s.oxs,dS s.pn s.pxs,dS s.rn s.rxs]; let zz2:=(zz1=zz1); let zz3:=(dJ 0=dJ 0); let zz4:=(zz3∧zz3∧zz3∧zz3∧zz3∧zz3∧zz3∧tU3 (True)); let zz5:=(dK s.most=dK s.most); let zz6:=(dJ s.bits=dJ s.bits); let zz7:=(dJ s.gw=dJ s.gw); let zz8:=(dJ s.gh=dJ s.gh); let zz9:=((0=0)∧(0=0)∧zz5∧(0=0)∧zz7∧zz8∧True); let zz10:=(dJ s.c.a=dJ s.c.a); let zz11:=(dJ s.c.b=dJ s.c.b); let zz12:=[dJ s.c.a,dJ s.c.b,dJ s.c.c,dJ s.c.d]; let zz13:=(wK (((cntS s.c s.gtw s.gth).1)*((cntS s.c s.gtw s.gth).2.1))); let zz14:=(dJ s.c.c=dJ s.c.c); let zz15:=(dJ s.c.d=dJ s.c.d); let zz16:=(dJ s.gtw=dJ s.gtw); let zz17:=(dJ s.gth=dJ s.gth); let zz18:=(s.ord.length=s.ord.length); let zz19:=fun (p:Nat)=>(zz9∧(zz2∧zz4∧(zz6∧zz10∧zz11∧zz14∧zz15∧zz16∧zz17∧zz18∧(p=(s.pics (min s.pn 4)).length)∧True∧True)∧(is s.ord=is s.ord)∧(ims (s.pics p)=ims (s.pics (min s.pn 4)))∧True)); let zz20:=((Im.ds (zQd s.gw s.gh ⟨s.most,(0:Int),(0:Int),s.most,s.most⟩))); let zz21:=((0=0)∧(0=0)∧zz5∧(0=0)∧True); let zz22:=(s.ims.length=s.ims.length); let zz23:=fun (k:Nat)=>(0≤(k:Int)∧(k:Int) < (s.rn:Int)∧(k:Int).toNat*11 < s.rxs.length); let zz24:=fun (k:Nat)=>fun (k':Nat)=>(min s.rn 9 - k' < min s.rn 9 - k); let zz25:=fun (k:Nat)=>fun (k':Nat)=>(dJ (wK ((k:Int)+(1:Int)))=dJ (k':Int)); let zz26:=fun (k:Nat)=>fun (k':Nat)=>(zz6∧zz10∧zz11∧zz14∧zz15∧zz16∧zz17∧zz18∧zz22∧(((s.run k).1.length)+1=(s.run k').1.length)∧True); let zz27:=fun (k:Nat)=>((s.run k).2.length=(s.run k).2.length); let zz28:=fun (k:Nat)=>(dJ (k:Int)=dJ (k:Int)); let zz29:=fun (k:Nat)=>(dJ (modS (nAt s.rxs ((k:Int).toNat*11+0)) (8:Int))=dJ (modS (nAt s.rxs ((k:Int).toNat*11+0)) (8:Int))); let zz30:=fun (k:Nat)=>(zz6∧zz10∧zz11∧zz14∧zz15∧zz16∧zz17∧zz18∧zz22∧((s.run k).1.length=(s.run k).1.length)∧True); let zz31:=fun (k:Nat)=>(ops (s.run k).2=ops (s.run k).2); let zz32:=fun (k:Nat)=>(ops (s.run k).1=ops (s.run k).1); let zz33:=fun (k:Nat)=>(zz2∧zz4∧(zz30 k)∧(zz31 k)∧(is s.ord=is s.ord)∧(ims s.ims=ims s.ims)∧(zz32 k)∧True); let zz34:=fun (k:Nat)=>(((0=0)∧(0=0)∧zz5∧(0=0)∧(zz27 k)∧(zz28 k)∧(zz29 k)∧(dJ (((s.run k).2.length:Nat):Int)=dJ (((s.run k).2.length:Nat):Int))∧True)∧(zz33 k)); let zz35:=fun (k:Nat)=>(0≤wK ((((s.run k).2.length:Nat):Int) - (1:Int))∧wK ((((s.run k).2.length:Nat):Int) - (1:Int)) < (((s.run k).2.length:Nat):Int)); let zz36:=fun (k:Nat)=>fun (o:Oq)=>(o=gOp (rwAt s.rxs (k*11)) (decide (modS (rwAt s.rxs (k*11)).k 8 < 3)) s.ims.length s.c (ctxB (s.run k).2) s.most); let zz37:=fun (k:Nat)=>fun (k':Nat)=>fun (o:Oq)=>((ops (s.run k).1)++((Oq.cells (o)))=ops (s.run k').1); let zz38:=fun (k:Nat)=>(((0=0)∧(0=0)∧((s.run k).2.length=(s.run (min s.rn 9)).2.length)∧True)∧(zz4∧(zz6∧zz10∧zz11∧zz14∧zz15∧zz16∧zz17∧zz18∧zz22∧((s.run k).1.length=(s.run (min s.rn 9)).1.length)∧True)∧(ops (s.run k).2=ops (s.run (min s.rn 9)).2)∧(is s.ord=is s.ord)∧(ims s.ims=ims s.ims)∧(ops (s.run k).1=ops (s.run (min s.rn 9)).1)∧True)); let zz39:=fun (j:Nat)=>(j≤(s.run (min s.rn 9)).2.length); let zz40:=((s.run (min s.rn 9)).2.length=(s.run (min s.rn 9)).2.length); let zz41:=(ops (s.run (min s.rn 9)).2=ops (s.run (min s.rn 9)).2); tU4 ((Ans Tryz.prog 18 [rJ (s.b)] (RV.d (dK (gMax s.b))))∧tU4 ((tU2 ((((decide ((gMax s.b) > (255:Int)))=true→tU2 (∃ u1:Unit,True∧(zz0∧(zz2∧zz4∧((dJ 16=dJ s.bits)∧zz3∧zz3∧zz3∧zz3∧zz3∧zz3∧tU3 (True))∧True))))∧((decide ((gMax s.b) > (255:Int)))=false→∃ u1:Unit,True∧(zz0∧(zz2∧zz4∧((dJ 8=dJ s.bits)∧zz3∧zz3∧zz3∧zz3∧zz3∧zz3∧tU3 (True))∧True))))))∧∀ u1:Unit,(True)→tU2 ((Ans Tryz.prog 14 [rJ (s.x),rJ (13)] (rJ ((modS s.x (13:Int)))))∧tU3 ((Ans Tryz.prog 14 [rJ (s.y),rJ (13)] (rJ ((modS s.y (13:Int)))))∧tU3 ((true=true)∧(tU2 ((Ans Tryz.prog 14 [rJ (s.w),rJ (5)] (rJ ((modS s.w (5:Int)))))∧tU3 ((Ans Tryz.prog 14 [rJ (s.h),rJ (4)] (rJ ((modS s.h (4:Int)))))∧tU3 ((true=true)∧∃ u2:Unit,True∧(((0=0)∧(0=0)∧zz5∧(0=0)∧(dJ (wK ((modS s.x (13:Int)) - (6:Int)))=dJ s.c.a)∧(dJ (wK ((modS s.y (13:Int)) - (6:Int)))=dJ s.c.b)∧(dJ (wK ((1:Int)+(modS s.w (5:Int))))=dJ s.gw)∧(dJ (wK ((1:Int)+(modS s.h (4:Int))))=dJ s.gh)∧True)∧(zz2∧zz4∧(zz6∧zz3∧zz3∧zz3∧zz3∧zz3∧zz3∧tU3 (True))∧True))))))∧∀ u2:Unit,(True)→tU3 (tU8 ((tU3 ((Ans Tryz.prog 14 [rJ (s.tw),rJ (s.gw)] (rJ ((modS s.tw s.gw))))∧tU4 ((Ans Tryz.prog 14 [rJ (s.th),rJ (s.gh)] (rJ ((modS s.th s.gh))))∧tU5 ((true=true)∧∃ u3:Unit,True∧(zz9∧(zz2∧zz4∧(zz6∧zz10∧zz11∧(dJ (wK (s.c.a+s.gw))=dJ s.c.c)∧(dJ (wK (s.c.b+s.gh))=dJ s.c.d)∧(dJ (wK ((1:Int)+(modS s.tw s.gw)))=dJ s.gtw)∧(dJ (wK ((1:Int)+(modS s.th s.gh)))=dJ s.gth)∧tU3 (True))∧True))))))∧∀ u3:Unit,(True)→tU6 ((Ans Tryz.prog 19 [RV.agg zz12,rJ (s.gtw),rJ (s.gth)] (RV.tup [rJ (((cntS s.c s.gtw s.gth).1)),rJ (((cntS s.c s.gtw s.gth).2.1)),RV.d (dQ ((cntS s.c s.gtw s.gth).2.2))]))∧tU7 ((tU5 ((AnsO Tryz.prog 20 [RV.d (dS s.on s.oxs),rJ (zz13)] 3 1 ((zXj (ints s.oxs) zz13).length) (is (zXj (ints s.oxs) zz13)))∧tU2 (∃ u4:Unit,True∧(zz9∧(zz2∧zz4∧(zz6∧zz10∧zz11∧zz14∧zz15∧zz16∧zz17∧((zXj (ints s.oxs) zz13).length=s.ord.length)∧tU2 (True))∧(is (zXj (ints s.oxs) zz13)=is s.ord)∧True)))))∧∀ u4:Unit,(True)→(True∧((∃ p:Nat,(p≤min s.pn 4)∧(((0=0)∧(0=0)∧zz5∧(0=0)∧zz7∧zz8∧(dJ 0=dJ (p:Int))∧True)∧(zz2∧zz4∧(zz6∧zz10∧zz11∧zz14∧zz15∧zz16∧zz17∧zz18∧(0=p)∧True∧True)∧(is s.ord=is s.ord)∧([]=ims (s.pics p))∧True)))∧∀ p:Nat,let yy2:=((p:Int).toNat*5+1+1+1+1); let yy1:=(zQI (nAt s.pxs ((p:Int).toNat*5)) (nAt s.pxs ((p:Int).toNat*5+1)) (nAt s.pxs ((p:Int).toNat*5+1+1)) (nAt s.pxs ((p:Int).toNat*5+1+1+1)) (lAt s.pxs yy2) (cAt s.pxs yy2) s.c.a s.c.b s.c.c s.c.d s.most); (p≤min s.pn 4)→tU6 ((((decide ((p:Int) < (s.pn:Int)))=true→tU3 ((((decide ((p:Int) < (4:Int)))=true→tU5 ((0≤(p:Int)∧(p:Int) < (s.pn:Int)∧(p:Int).toNat*5 < s.pxs.length)∧((s.pxs[(p:Int).toNat*5]?=some (dJ (nAt s.pxs ((p:Int).toNat*5))))∧(s.pxs[(p:Int).toNat*5+1]?=some (dJ (nAt s.pxs ((p:Int).toNat*5+1))))∧(s.pxs[(p:Int).toNat*5+1+1]?=some (dJ (nAt s.pxs ((p:Int).toNat*5+1+1))))∧(s.pxs[(p:Int).toNat*5+1+1+1]?=some (dJ (nAt s.pxs ((p:Int).toNat*5+1+1+1))))∧(s.pxs[(p:Int).toNat*5+1+1+1+1]?=some (dS (lAt s.pxs yy2) (cAt s.pxs yy2)))∧True)∧tU3 ((Ans Tryz.prog 21 [RV.agg [dJ (nAt s.pxs ((p:Int).toNat*5)),dJ (nAt s.pxs ((p:Int).toNat*5+1)),dJ (nAt s.pxs ((p:Int).toNat*5+1+1)),dJ (nAt s.pxs ((p:Int).toNat*5+1+1+1)),dS (lAt s.pxs yy2) (cAt s.pxs yy2)],RV.agg zz12,RV.d (dK s.most)] ((imR yy1)))∧True∧(zZf 28 272 p 1 (ims (s.pics p)) ((Im.ds yy1)))∧tU2 ((true=true)∧tU3 (∃ p':Nat,(p'≤min s.pn 4)∧(min s.pn 4 - p' < min s.pn 4 - p)∧(((0=0)∧(0=0)∧zz5∧(0=0)∧zz7∧zz8∧(dJ (wK ((p:Int)+(1:Int)))=dJ (p':Int))∧True)∧(zz2∧zz4∧(zz6∧zz10∧zz11∧zz14∧zz15∧zz16∧zz17∧zz18∧(p+1=p')∧True∧True)∧(is s.ord=is s.ord)∧((ims (s.pics p))++((Im.ds yy1))=ims (s.pics p'))∧True)))))))∧((decide ((p:Int) < (4:Int)))=false→∃ u6:Unit,True∧(zz19 p)))))∧((decide ((p:Int) < (s.pn:Int)))=(!true)→True∧∃ u6:Unit,True∧(zz19 p))))))∧∀ u6:Unit,(True)→(tU2 (((s.pics (min s.pn 4)).length≤maxLen)∧True∧((((((s.pics (min s.pn 4)).length:Nat):Int)==(0:Int))=true→True∧tU8 ((Ans Tryz.prog 22 [rJ (s.gw),rJ (s.gh),RV.agg [dK s.most,dK 0,dK 0,dK s.most,dK s.most]] ((imR (zQd s.gw s.gh ⟨s.most,(0:Int),(0:Int),s.most,s.most⟩))))∧True∧(zZf 28 272 ((s.pics (min s.pn 4)).length) 1 (ims (s.pics (min s.pn 4))) zz20)∧tU2 ((true=true)∧∃ u5:Unit,True∧(zz21∧(zz2∧zz4∧(zz6∧zz10∧zz11∧zz14∧zz15∧zz16∧zz17∧zz18∧(((s.pics (min s.pn 4)).length)+1=s.ims.length)∧True∧True)∧(is s.ord=is s.ord)∧((ims (s.pics (min s.pn 4)))++zz20=ims s.ims)∧True)))))∧(((((s.pics (min s.pn 4)).length:Nat):Int)==(0:Int))=false→∃ u5:Unit,True∧(zz21∧(zz2∧zz4∧(zz6∧zz10∧zz11∧zz14∧zz15∧zz16∧zz17∧zz18∧((s.pics (min s.pn 4)).length=s.ims.length)∧True∧True)∧(is s.ord=is s.ord)∧(ims (s.pics (min s.pn 4))=ims s.ims)∧True))))))∧∀ u5:Unit,(True)→True∧(True∧((∃ k:Nat,(k≤min s.rn 9)∧(((0=0)∧(0=0)∧zz5∧(0=0)∧(0=(s.run k).2.length)∧(dJ 0=dJ (k:Int))∧True)∧(zz2∧zz4∧(zz6∧zz10∧zz11∧zz14∧zz15∧zz16∧zz17∧zz18∧zz22∧(0=(s.run k).1.length)∧True)∧([]=ops (s.run k).2)∧(is s.ord=is s.ord)∧(ims s.ims=ims s.ims)∧([]=ops (s.run k).1)∧True)))∧∀ k:Nat,let yy15:=(((s.run k).2.length:Nat):Int); let yy16:=(nAt s.rxs ((k:Int).toNat*11+1)); let yy17:=(nAt s.rxs ((k:Int).toNat*11)); let yy3:=(wK (yy15 - (1:Int))); let yy4:=(nAt s.rxs ((k:Int).toNat*11+0)); let yy5:=(nAt s.rxs ((k:Int).toNat*11+1+1+1+1+1+1+1+1+1+1)); let yy6:=(nAt s.rxs ((k:Int).toNat*11+1+1+1+1+1+1+1+1+1)); let yy7:=(nAt s.rxs ((k:Int).toNat*11+1+1+1+1+1+1+1+1)); let yy8:=(nAt s.rxs ((k:Int).toNat*11+1+1+1+1+1+1+1)); let yy9:=(nAt s.rxs ((k:Int).toNat*11+1+1+1+1+1+1)); let yy10:=(nAt s.rxs ((k:Int).toNat*11+1+1+1+1+1)); let yy11:=(nAt s.rxs ((k:Int).toNat*11+1+1+1+1)); let yy12:=(nAt s.rxs ((k:Int).toNat*11+1+1+1)); let yy13:=(nAt s.rxs ((k:Int).toNat*11+1+1)); (k≤min s.rn 9)→tU6 ((((decide ((k:Int) < (s.rn:Int)))=true→tU3 ((((decide ((k:Int) < (9:Int)))=true→tU3 ((zz23 k)∧True∧((s.rxs[(k:Int).toNat*11+0]?=some (dJ yy4))∧True)∧(Ans Tryz.prog 14 [rJ (yy4),rJ (8)] (rJ ((modS yy4 (8:Int)))))∧tU2 (((s.run k).2.length≤maxLen)∧True∧(tU3 (((((modS yy4 (8:Int))==(0:Int))=true→tU3 ((((decide (yy15 > (0:Int)))=true→tU4 ((zZf 12 88 ((s.run k).1.length) 1 (ops (s.run k).1) yy0)∧tU5 ((0≤wK (yy15 - (1:Int))∧wK (yy15 - (1:Int))≤yy15)∧tU4 (∃ k':Nat,(k'≤min s.rn 9)∧(zz24 k k')∧(((0=0)∧(0=0)∧zz5∧(0=0)∧(yy3.toNat=(s.run k').2.length)∧(zz25 k k')∧True)∧(zz2∧zz4∧(zz26 k k')∧(List.take (yy3.toNat*12) (ops (s.run k).2)=ops (s.run k').2)∧(is s.ord=is s.ord)∧(ims s.ims=ims s.ims)∧((ops (s.run k).1)++yy0=ops (s.run k').1)∧True))))))∧((decide (yy15 > (0:Int)))=false→∃ u8:Unit,(¬ (modS (rwAt s.rxs (k*11)).k 8=0∧0 < (s.run k).2.length))∧(zz34 k)))))∧(((modS yy4 (8:Int))==(0:Int))=(!true)→True∧∃ u8:Unit,(¬ (modS (rwAt s.rxs (k*11)).k 8=0∧0 < (s.run k).2.length))∧(zz34 k)))))∧∀ u8:Unit,(¬ (modS (rwAt s.rxs (k*11)).k 8=0∧0 < (s.run k).2.length))→(tU3 ((((yy15==(0:Int))=false→tU3 ((zz35 k)∧True∧(((ops (s.run k).2)[yy3.toNat*12+10]?=some (dQ (bAt (ops (s.run k).2) (yy3.toNat*12+10))))∧True)∧True∧(((bAt (ops (s.run k).2) (yy3.toNat*12+10))=true→tU3 ((zz35 k)∧True∧(((ops (s.run k).2)[yy3.toNat*12+11]?=some (dQ (bAt (ops (s.run k).2) (yy3.toNat*12+11))))∧True)∧tU4 (∃ fr:Bool,(fr=ctxB (s.run k).2)∧(((0=0)∧(0=0)∧zz5∧(0=0)∧(zz27 k)∧(zz28 k)∧(zz29 k)∧(dQ (!(bAt (ops (s.run k).2) (yy3.toNat*12+11)))=dQ fr)∧True)∧(zz33 k)))))∧((bAt (ops (s.run k).2) (yy3.toNat*12+10))=(!true)→tU3 (∃ fr:Bool,(fr=ctxB (s.run k).2)∧(((0=0)∧(0=0)∧zz5∧(0=0)∧(zz27 k)∧(zz28 k)∧(zz29 k)∧(dQ false=dQ fr)∧True)∧(zz33 k)))))))∧((yy15==(0:Int))=(!false)→tU2 (∃ fr:Bool,(fr=ctxB (s.run k).2)∧(((0=0)∧(0=0)∧zz5∧(0=0)∧(zz27 k)∧(zz28 k)∧(zz29 k)∧(dQ true=dQ fr)∧True)∧(zz33 k)))))))∧∀ fr:Bool,(fr=ctxB (s.run k).2)→(tU3 ((zz23 k)∧((s.rxs[(k:Int).toNat*11]?=some (dJ yy17))∧(s.rxs[(k:Int).toNat*11+1]?=some (dJ yy16))∧(s.rxs[(k:Int).toNat*11+1+1]?=some (dJ yy13))∧(s.rxs[(k:Int).toNat*11+1+1+1]?=some (dJ yy12))∧(s.rxs[(k:Int).toNat*11+1+1+1+1]?=some (dJ yy11))∧(s.rxs[(k:Int).toNat*11+1+1+1+1+1]?=some (dJ yy10))∧(s.rxs[(k:Int).toNat*11+1+1+1+1+1+1]?=some (dJ yy9))∧(s.rxs[(k:Int).toNat*11+1+1+1+1+1+1+1]?=some (dJ yy8))∧(s.rxs[(k:Int).toNat*11+1+1+1+1+1+1+1+1]?=some (dJ yy7))∧(s.rxs[(k:Int).toNat*11+1+1+1+1+1+1+1+1+1]?=some (dJ yy6))∧(s.rxs[(k:Int).toNat*11+1+1+1+1+1+1+1+1+1+1]?=some (dJ yy5))∧True)∧tU4 ((s.ims.length≤maxLen)∧tU4 ((Ans Tryz.prog 23 [RV.agg [dJ yy17,dJ yy16,dJ yy13,dJ yy12,dJ yy11,dJ yy10,dJ yy9,dJ yy8,dJ yy7,dJ yy6,dJ yy5],RV.d (dQ (decide ((modS yy4 (8:Int)) < (3:Int)))),rJ ((s.ims.length:Int)),RV.agg zz12,RV.d (dQ fr),RV.d (dK s.most)] (RV.agg (Oq.cells (gOp ⟨yy17,yy16,yy13,yy12,yy11,yy10,yy9,yy8,yy7,yy6,yy5⟩ (decide ((modS yy4 (8:Int)) < (3:Int))) (s.ims.length:Int) s.c fr s.most))))∧tU2 ((true=true)∧∃ o:Oq,(zz36 k o)∧(((0=0)∧(0=0)∧zz5∧(0=0)∧(zz27 k)∧(zz28 k)∧(0=0)∧True)∧(zz2∧zz4∧(zz30 k)∧(zz31 k)∧((Oq.cells (gOp ⟨yy17,yy16,yy13,yy12,yy11,yy10,yy9,yy8,yy7,yy6,yy5⟩ (decide ((modS yy4 (8:Int)) < (3:Int))) (s.ims.length:Int) s.c fr s.most))=(Oq.cells (o)))∧(is s.ord=is s.ord)∧(ims s.ims=ims s.ims)∧(zz32 k)∧True)))))))∧∀ o:Oq,(zz36 k o)→tU4 ((zZf 12 88 ((s.run k).1.length) 1 (ops (s.run k).1) ((Oq.cells (o))))∧tU5 ((((o.kind==(2:Int))=true→tU3 ((zZf 12 88 ((s.run k).2.length) 1 (ops (s.run k).2) ((Oq.cells (o))))∧tU4 (∃ k':Nat,(k'≤min s.rn 9)∧(zz24 k k')∧(((0=0)∧(0=0)∧zz5∧(0=0)∧(((s.run k).2.length)+1=(s.run k').2.length)∧(zz25 k k')∧True)∧(zz2∧zz4∧(zz26 k k')∧((ops (s.run k).2)++((Oq.cells (o)))=ops (s.run k').2)∧(is s.ord=is s.ord)∧(ims s.ims=ims s.ims)∧(zz37 k k' o)∧True)))))∧((o.kind==(2:Int))=false→tU3 (∃ k':Nat,(k'≤min s.rn 9)∧(zz24 k k')∧(((0=0)∧(0=0)∧zz5∧(0=0)∧((s.run k).2.length=(s.run k').2.length)∧(zz25 k k')∧True)∧(zz2∧zz4∧(zz26 k k')∧(ops (s.run k).2=ops (s.run k').2)∧(is s.ord=is s.ord)∧(ims s.ims=ims s.ims)∧(zz37 k k' o)∧True))))))))))∧((decide ((k:Int) < (9:Int)))=false→∃ u7:Unit,True∧(zz38 k)))))∧((decide ((k:Int) < (s.rn:Int)))=(!true)→True∧∃ u7:Unit,True∧(zz38 k))))))∧∀ u7:Unit,(True)→True∧((∃ j:Nat,(zz39 j)∧(((0=0)∧(0=0)∧zz40∧(dJ 0=dJ (j:Int))∧True)∧(zz4∧(zz6∧zz10∧zz11∧zz14∧zz15∧zz16∧zz17∧zz18∧zz22∧((s.run (min s.rn 9)).1.length=((s.run (min s.rn 9)).1++List.replicate j popO).length)∧True)∧zz41∧(is s.ord=is s.ord)∧(ims s.ims=ims s.ims)∧(ops (s.run (min s.rn 9)).1=ops ((s.run (min s.rn 9)).1++List.replicate j popO))∧True)))∧∀ j:Nat,let yy14:=((s.run (min s.rn 9)).1++List.replicate j popO); (zz39 j)→tU2 (((s.run (min s.rn 9)).2.length≤maxLen)∧True∧(((decide ((j:Int) < (((s.run (min s.rn 9)).2.length:Nat):Int)))=true→tU4 ((zZf 12 88 (yy14.length) 1 (ops yy14) yy0)∧tU5 (∃ j':Nat,(j'≤(s.run (min s.rn 9)).2.length)∧((s.run (min s.rn 9)).2.length - j' < (s.run (min s.rn 9)).2.length - j)∧(((0=0)∧(0=0)∧zz40∧(dJ (wK ((j:Int)+(1:Int)))=dJ (j':Int))∧True)∧(zz4∧(zz6∧zz10∧zz11∧zz14∧zz15∧zz16∧zz17∧zz18∧zz22∧((yy14.length)+1=((s.run (min s.rn 9)).1++List.replicate j' popO).length)∧True)∧zz41∧(is s.ord=is s.ord)∧(ims s.ims=ims s.ims)∧((ops yy14)++yy0=ops ((s.run (min s.rn 9)).1++List.replicate j' popO))∧True)))))∧((decide ((j:Int) < (((s.run (min s.rn 9)).2.length:Nat):Int)))=false→tU2 (((((dJ s.bits=dJ ((s).bits))∧(dJ s.c.a=dJ ((s).c.a))∧(dJ s.c.b=dJ ((s).c.b))∧(dJ s.c.c=dJ ((s).c.c))∧(dJ s.c.d=dJ ((s).c.d))∧(dJ s.gtw=dJ ((s).gtw))∧(dJ s.gth=dJ ((s).gth))∧(s.ord.length=(s).ord.length)∧(s.ims.length=(s).ims.length)∧(yy14.length=(s).ops.length)∧True)∧True)∧((is s.ord=is (s).ord)∧(ims s.ims=ims (s).ims)∧(ops yy14=ops (s).ops)∧True))∧zQv ⟨AV.agg [cJ (((s).bits)),cJ (((s).c.a)),cJ (((s).c.b)),cJ (((s).c.c)),cJ (((s).c.d)),cJ (((s).gtw)),cJ (((s).gth)),Cl.ref 0 ((s).ord.length),Cl.ref 1 ((s).ims.length),Cl.ref 2 ((s).ops.length)],[Bx.row 3 1 (is (s).ord),Bx.row 43 28 (ims (s).ims),Bx.row 51 12 (ops (s).ops)],false⟩))))))))))))))):=by kernel_rfl
theorem jXz (s:Scn) (hs:s.ok):AnsG Tryz.prog 9 0 [AV.agg [Cl.d (DV.int .i64 s.b),Cl.d (DV.int .i64 s.x),Cl.d (DV.int .i64 s.y),Cl.d (DV.int .i64 s.w),Cl.d (DV.int .i64 s.h),Cl.d (DV.int .i64 s.tw),Cl.d (DV.int .i64 s.th),Cl.d (DV.sl s.on s.oxs),Cl.d (DV.sl s.pn s.pxs),Cl.d (DV.sl s.rn s.rxs)]] [] ⟨AV.agg [Cl.d (DV.int .i64 ((s).bits)),Cl.d (DV.int .i64 ((s).c.a)),Cl.d (DV.int .i64 ((s).c.b)),Cl.d (DV.int .i64 ((s).c.c)),Cl.d (DV.int .i64 ((s).c.d)),Cl.d (DV.int .i64 ((s).gtw)),Cl.d (DV.int .i64 ((s).gth)),Cl.ref 0 ((s).ord.length),Cl.ref 1 ((s).ims.length),Cl.ref 2 ((s).ops.length)],[Bx.row 3 1 (is (s).ord),Bx.row 43 28 (ims (s).ims),Bx.row 51 12 (ops (s).ops)],false⟩:=
 zQz (Γ:=jGe) (zUH s) zQC Tryz.func9 rfl (Nat.le_of_ble_eq_true rfl) rfl fun hwf hbx=>by
  refine Eq.mpr (jYq s) ?_
  delta tU2 tU3 tU4 tU5 tU6 tU7 tU8 dJ dK dQ cJ wK dS rJ
  simp only [true_and,and_true,RV.d.injEq,RV.agg.injEq,RV.tup.injEq,DV.bool.injEq,DV.int.injEq,DV.sl.injEq,List.cons.injEq,forall_const,Bool.not_false,Bool.not_true,Bool.not_eq_true',Bool.not_eq_false',decide_eq_true_eq,decide_eq_false_iff_not,Int.toNat_natCast,zQK,zWR]
  obtain ⟨⟨ho1,ho2⟩,⟨hp1,hp2⟩,⟨hr1,hr2⟩⟩:=hs
  obtain ⟨f1,f2,f3,f4,f5,f6⟩:=s.facts
  have CF:=s.c_facts
  have w1:IntKind.wrap .i64 (modS s.x 13 - 6)=s.c.a:=IntWalk.i64_in _ ⟨by omega,by omega⟩
  have w2:IntKind.wrap .i64 (modS s.y 13 - 6)=s.c.b:=IntWalk.i64_in _ ⟨by omega,by omega⟩
  have g1:s.gw=1+modS s.w 5:=rfl
  have g2:s.gh=1+modS s.h 4:=rfl
  have g3:s.gtw=1+modS s.tw s.gw:=rfl
  have g4:s.gth=1+modS s.th s.gh:=rfl
  have w3:IntKind.wrap .i64 (1+modS s.w 5)=s.gw:=IntWalk.i64_in _ ⟨by omega,by omega⟩
  have w4:IntKind.wrap .i64 (1+modS s.h 4)=s.gh:=IntWalk.i64_in _ ⟨by omega,by omega⟩
  have w5:IntKind.wrap .i64 (s.c.a+s.gw)=s.c.c:=by rw [IntWalk.i64_in _ ⟨by omega,by omega⟩]; omega
  have w6:IntKind.wrap .i64 (s.c.b+s.gh)=s.c.d:=by rw [IntWalk.i64_in _ ⟨by omega,by omega⟩]; omega
  have w7:IntKind.wrap .i64 (1+modS s.tw s.gw)=s.gtw:=IntWalk.i64_in _ ⟨by omega,by omega⟩
  have w8:IntKind.wrap .i64 (1+modS s.th s.gh)=s.gth:=IntWalk.i64_in _ ⟨by omega,by omega⟩
  have hm:=s.tiles_in
  have hM:∀ n:Nat,n≤100→n≤maxLen:=fun n h=>by unfold maxLen; omega
  have li:=s.ims_len
  have lk:=fun k=>s.run_len k
  have pq:1≤s.c.c - s.c.a∧s.c.c - s.c.a≤100∧1≤s.c.d - s.c.b∧s.c.d - s.c.b≤100:=by omega
  have BI:=s.bits_of
  refine ⟨⟨fun h=>⟨(),rfl,BI.1 h⟩,fun h=>⟨(),rfl,BI.2 h⟩⟩,⟨(),w1,w2,w3,w4⟩,⟨(),w5,w6,w7,w8⟩,jZi _ _ _ _ _ _,⟨zUr _ _ _ ⟨ho1,ho2⟩ hm.1,(),rfl,rfl⟩,⟨⟨0,Nat.zero_le _,rfl,rfl,rfl⟩,fun p hp=>⟨fun h1=>⟨fun h2=>?_,fun h2=>?_⟩,fun h1=>?_⟩⟩,?_⟩
  ·obtain ⟨q0,q1,q2,q3,q4,q5⟩:=hp2 p (by omega)
   refine ⟨⟨by omega,by omega,by omega⟩,⟨q0,q1,q2,q3,q4⟩,jXC _ _ _ _ _ _ _ _ _ _ _ q5 pq,⟨by rw [zXq,s.pics_len],by rw [Im.ds_len],hM _ (by omega),by omega⟩,p+1,by omega,by omega,zXs (by omega),rfl,?_⟩
   rw [s.pics_succ,jJQ,jUC]; rfl
  ·have:p=min s.pn 4:=by omega
   subst this
   exact ⟨(),(s.pics_len _).symm,rfl⟩
  ·have:p=min s.pn 4:=by omega
   subst this
   exact ⟨(),(s.pics_len _).symm,rfl⟩
  have lp:=s.pics_len (min s.pn 4)
  refine ⟨⟨hM _ (by omega),fun h=>?_,fun h=>?_⟩,⟨⟨0,Nat.zero_le _,⟨rfl,rfl⟩,rfl,rfl,rfl⟩,fun k hk=>⟨fun h1=>⟨fun h2=>?_,fun h2=>?_⟩,fun h1=>?_⟩⟩,?_⟩
  ·have h0:min s.pn 4=0:=by rw [lp] at h; simpa using h
   have e1:s.ims=[s.solo]:=by unfold Scn.ims; rw [if_pos h0]
   have e2:s.pics (min s.pn 4)=[]:=by rw [h0]; rfl
   rw [e1,e2]
   exact ⟨zKP s.gw s.gh ⟨_,_,_,_,_⟩,⟨by simp [ims],by simp [Im.ds],hM _ (by simp),by simp⟩,(),rfl,by simp [ims]; rfl⟩
  ·have h0:¬ min s.pn 4=0:=by rw [lp] at h; simpa using h
   have e1:s.ims=s.pics (min s.pn 4):=by unfold Scn.ims; rw [if_neg h0]
   rw [e1]
   exact ⟨(),rfl,rfl⟩
  ·have lk1:=(lk k).1
   have lk2:=(lk k).2
   have ro:=fun i (h:i < 11)=>hr2 (k*11+i) (by omega)
   have wl:0 < (s.run k).2.length→IntKind.wrap .i64 (((s.run k).2.length:Int) - 1)=(((s.run k).2.length - 1:Nat):Int):=fun h=>by rw [IntWalk.i64_in _ ⟨by omega,by omega⟩]; omega
   have ws:IntKind.wrap .i64 ((k:Int)+1)=((k+1:Nat):Int):=zXs (by omega)
   refine ⟨⟨by omega,by omega,by omega⟩,ro 0 (by omega),hM _ (by omega),⟨fun a1=>⟨fun a2=>?_,fun a2=>⟨(),fun h=>a2 (by omega)⟩⟩,fun a1=>⟨(),fun h=>?_⟩⟩,fun hn=>⟨⟨fun a1=>?_,fun a1=>?_⟩,fun fr hfr=>⟨?_,fun o ho=>?_⟩⟩⟩
   ·have a3:0 < (s.run k).2.length:=by omega
    have a4:modS (nAt s.rxs (k*11)) 8=0:=by simpa using a1
    have rp:=Scn.run_pop (s:=s) (k:=k) ⟨a4,a3⟩
    rw [wl a3]
    refine ⟨⟨by rw [zZl,lk1],rfl,hM _ (by omega),by omega⟩,⟨by omega,by omega⟩,k+1,by omega,by omega,⟨?_,ws⟩,?_,?_,?_⟩
    ·rw [rp]; simp
    ·rw [rp]; simp
    ·rw [rp,Int.toNat_natCast,jYQ,List.dropLast_eq_take]
    ·rw [rp,zJl,zGB]; rfl
   ·have a4:¬ modS (nAt s.rxs (k*11)) 8=0:=by simpa using a1
    exact a4 h.1
   ·have a3:0 < (s.run k).2.length:=by
     have:¬ (s.run k).2.length=0:=by simpa using a1
     omega
    have hl:(s.run k).2.length - 1 < (s.run k).2.length:=by omega
    have g10:(ops (s.run k).2)[((s.run k).2.length - 1)*12+10]?=some (.bool (s.run k).2[(s.run k).2.length - 1].iso):=jQF hl 10 (by omega)
    have g11:(ops (s.run k).2)[((s.run k).2.length - 1)*12+11]?=some (.bool (s.run k).2[(s.run k).2.length - 1].kno):=jQF hl 11 (by omega)
    have b10:bAt (ops (s.run k).2) (((s.run k).2.length - 1)*12+10)=(s.run k).2[(s.run k).2.length - 1].iso:=by simp only [bAt,g10]
    have b11:bAt (ops (s.run k).2) (((s.run k).2.length - 1)*12+11)=(s.run k).2[(s.run k).2.length - 1].kno:=by simp only [bAt,g11]
    rw [wl a3,Int.toNat_natCast,b10,b11,jVi a3]
    refine ⟨⟨by omega,by omega⟩,g10,fun h=>⟨⟨by omega,by omega⟩,g11,_,rfl,?_⟩,fun h=>⟨_,rfl,?_⟩⟩ <;> simp [h]
   ·have a3:(s.run k).2.length=0:=by simpa using a1
    rw [List.length_eq_zero_iff.1 a3]
    exact ⟨_,rfl,rfl⟩
   ·subst hfr
    refine ⟨⟨by omega,by omega,by omega⟩,⟨ro 0 (by omega),ro 1 (by omega),ro 2 (by omega),ro 3 (by omega),ro 4 (by omega),ro 5 (by omega),ro 6 (by omega),ro 7 (by omega),ro 8 (by omega),ro 9 (by omega),ro 10 (by omega)⟩,hM _ (by omega),jWt (rwAt s.rxs (k*11)) _ _ _ _ _ ⟨⟨by omega,by omega⟩,by omega,by omega⟩ ⟨by omega,by omega⟩,_,rfl,rfl⟩
   ·obtain ⟨r1,r2⟩:=Scn.run_op (s:=s) (k:=k) hn ho
    clear ho
    refine ⟨⟨by rw [zZl,lk1],rfl,hM _ (by omega),by omega⟩,fun a1=>⟨⟨by rw [zZl],rfl,hM _ (by omega),by omega⟩,k+1,by omega,by omega,⟨?_,ws⟩,?_,?_,?_⟩,fun a1=>⟨k+1,by omega,by omega,⟨?_,ws⟩,?_,?_,?_⟩⟩
    ·rw [r1 (by simpa using a1)]; simp
    ·rw [r1 (by simpa using a1)]; simp
    ·rw [r1 (by simpa using a1),zJl,zGB]
    ·rw [r1 (by simpa using a1),zJl,zGB]
    ·rw [r2 (by simpa using a1)]
    ·rw [r2 (by simpa using a1)]; simp
    ·rw [r2 (by simpa using a1)]
    ·rw [r2 (by simpa using a1),zJl,zGB]
  ·have:k=min s.rn 9:=by omega
   subst this
   exact ⟨(),rfl,rfl,rfl,rfl⟩
  ·have:k=min s.rn 9:=by omega
   subst this
   exact ⟨(),rfl,rfl,rfl,rfl⟩
  ·have e:s.ops=(s.run (min s.rn 9)).1++List.replicate (s.run (min s.rn 9)).2.length popO:=rfl
   have lr:=lk (min s.rn 9)
   rw [e]
   generalize s.run (min s.rn 9)=z at *
   refine ⟨⟨0,Nat.zero_le _,rfl,by simp,by simp⟩,fun j hj=>⟨hM _ (by omega),fun h=>?_,fun h=>?_⟩⟩
   ·have e2:z.1++List.replicate (j+1) popO=(z.1++List.replicate j popO)++[popO]:=by rw [List.append_assoc,List.replicate_succ']
    refine ⟨⟨by rw [zZl],rfl,hM _ (by simp; omega),by simp; omega⟩,j+1,by omega,by omega,zXs (by omega),?_,?_⟩
    ·rw [e2]; simp; omega
    ·rw [e2,zJl _ [popO],zGB]; rfl
   ·have:j=z.2.length:=by omega
    subst this
    exact ⟨⟨rfl,rfl⟩,trivial⟩
end Go.Proofs.YtheidkkebdhmkaaGreatDoor
namespace Go.Proofs.YtheidkkebdhmkaaGreatDoor
open Go.RowKit
set_option linter.unusedVariables false
set_option linter.unusedSimpArgs false
attribute [local irreducible] Ans AnsO AnsG AnsN AnsI
set_option maxRecDepth 4000
structure Scr where
  bits:Int
  c:Rc
  tw:Int
  th:Int
  ord:List Int
  ims:List Im
  ops:List Oq
def Scr.frame (s:Scr):Int:=jK1 s.bits s.c s.tw s.th s.ord s.ims.length s.ops.length
def Scr.run (s:Scr):Int × Int:=opsE s.bits s.c s.tw s.th s.ord s.ims.length s.ops
end Go.Proofs.YtheidkkebdhmkaaGreatDoor
namespace Go.Proofs.YtheidkkebdhmkaaGreatDoor
open Go.RowKit
set_option linter.unusedVariables false
set_option linter.unusedSimpArgs false
attribute [local irreducible] Ans AnsO AnsG AnsN AnsI
set_option maxRecDepth 4000
def eR (p:Int × Int):RV:=RV.tup [RV.d (DV.int .i64 p.1),RV.d (DV.int .i64 p.2)]
theorem jWN {n:Nat} {l:List Int} (h:n=l.length):is l=is (ints (is l))∧n=(is l).length:=⟨by rw [zQZ],by rw [zZF]; exact h⟩
end Go.Proofs.YtheidkkebdhmkaaGreatDoor
namespace Go.Proofs.YtheidkkebdhmkaaGreatDoor
open Go.RowKit
set_option linter.unusedVariables false
set_option linter.unusedSimpArgs false
attribute [local irreducible] Ans AnsO AnsG AnsN AnsI
set_option maxRecDepth 4000
def fitL (lo hi:Int) (l:List Int):Bool:=l.all fun v=>decide (lo≤v∧v≤hi)
theorem jWr {f:Int→Bool} {l:List Int} {k:Nat} (h:k < l.length):(l.take (k+1)).all f=((l.take k).all f && f l[k]):=by
 rw [List.take_succ_eq_append_getElem h,List.all_append]
 simp
theorem jXq {f:Int→Bool} {l:List Int} {k:Nat} (h:k < l.length) (hf:f l[k]=false):l.all f=false:=by
 rw [List.all_eq_false]
 exact ⟨l[k],List.getElem_mem h,by rw [hf]; simp⟩
def jXb:Gam where
 pure:=fun f xs=>
  if f=93 then (match xs with | [.d (.int _ low),.d (.int _ high),.d (.sl n xs)]=>some (RV.d (dQ (fitL low high (ints (xs))))) | _=>none) else
  none
 modes:=fun f=>
  none
 proc:=fun f xs bs=>
  none
 iter:=fun f cs=>
  none
def zKl (low high:Int) (l:List Int):Ann:=(Ann.seq Ann.leaf (Ann.seq (Ann.seq Ann.leaf (Ann.loop ⟨Nat,fun k=>k≤l.length∧fitL low high (l.take k)=true,fun k=>⟨[(0,aJ ((low))),(1,aJ ((high))),(9,AV.one (Cl.d (dS l.length (is l)))),(10,aJ (((l.length:Int)))),(11,aJ (((k:Int))))],[]⟩,fun k=>l.length - k⟩ fun k=>Ann.leaf)) Ann.leaf))
theorem zHs (low high:Int) (l:List Int):vcg Tryz.prog jXb 24 (zQA Tryz.f93) (zKl low high l) kn0 (zQ0 [rJ (low),rJ (high),RV.d (dS l.length (is l))]) (post Tryz.prog Tryz.f93.results.toList (·=RV.d (dQ (fitL low high (ints (is l)))))) =
 (let zz0:=fun (k:Nat)=>(k≤l.length∧fitL low high (l.take k)=true); let zz1:=(dJ low=dJ low); let zz2:=(dJ high=dJ high); let zz3:=(dS l.length (is l)=dS l.length (is l)); let zz4:=(dJ (l.length:Int)=dJ (l.length:Int)); let zz5:=(dQ (fitL low high (ints (is l)))); tU4 (((∃ k:Nat,(zz0 k)∧((zz1∧zz2∧zz3∧zz4∧(dJ 0=dJ (k:Int))∧True)∧(True)))∧∀ k:Nat,let yy0:=(nAt (is l) ((k:Int).toNat*1)); (zz0 k)→True∧(((decide ((k:Int) < (l.length:Int)))=true→(0≤(k:Int)∧(k:Int) < (l.length:Int)∧(k:Int).toNat*1 < (is l).length)∧(((is l)[(k:Int).toNat*1]?=some (dJ yy0))∧True)∧tU5 ((((decide (yy0 < low))=false→tU4 ((((decide (yy0 > high))=true→True∧RV.d (dQ false)=RV.d zz5)∧((decide (yy0 > high))=false→tU2 (∃ k':Nat,(k'≤l.length∧fitL low high (l.take k')=true)∧(l.length - k' < l.length - k)∧((zz1∧zz2∧zz3∧zz4∧(dJ (wK ((k:Int)+(1:Int)))=dJ (k':Int))∧True)∧(True)))))))∧((decide (yy0 < low))=(!false)→tU2 (RV.d (dQ false)=RV.d zz5)))))∧((decide ((k:Int) < (l.length:Int)))=false→True∧RV.d (dQ true)=RV.d zz5))))):=by kernel_rfl
theorem zYB (low high:Int) (l:List Int):Ans Tryz.prog 93 [RV.d (DV.int .i64 low),RV.d (DV.int .i64 high),RV.d (DV.sl l.length (is l))] (RV.d (DV.bool (fitL low high (ints (is l))))):=
 zQo (Γ:=jXb) (zKl low high l) zQC Tryz.func93 rfl (Nat.le_of_ble_eq_true rfl) fun hwf=>by
  refine Eq.mpr (zHs low high l) ?_
  delta tU2 tU4 tU5 dJ dQ wK dS
  simp only [true_and,and_true,RV.d.injEq,RV.agg.injEq,RV.tup.injEq,DV.bool.injEq,DV.int.injEq,DV.sl.injEq,List.cons.injEq,forall_const,Bool.not_false,Bool.not_true,Bool.not_eq_true',Bool.not_eq_false',decide_eq_true_eq,decide_eq_false_iff_not,Int.toNat_natCast]
  simp only [zQZ]
  simp only [RV.wfs,RV.wf,DV.wf,maxLen] at hwf
  refine ⟨⟨0,⟨Nat.zero_le _,rfl⟩,rfl⟩,fun k hk=>⟨fun hlt=>?_,fun hge=>?_⟩⟩
  ·obtain ⟨k1,k2⟩:=hk
   have hk:k < l.length:=by omega
   obtain ⟨q1,q2⟩:=jGr hk
   have w1:IntKind.wrap .i64 ((k:Int)+1)=((k+1:Nat):Int):=by rw [IntWalk.i64_in _ ⟨by omega,by omega⟩]; omega
   simp only [Nat.mul_one,q2,w1]
   refine ⟨⟨by omega,by omega,by rw [zZF]; omega⟩,q1,fun h1=>⟨fun h2=>?_,fun h2=>?_⟩,fun h1=>?_⟩
   ·exact (jXq hk (by simp; omega)).symm
   ·exact ⟨k+1,⟨by omega,by unfold fitL at k2 ⊢; rw [jWr hk,k2]; simp; omega⟩,by omega,rfl⟩
   ·exact (jXq hk (by simp; omega)).symm
  ·obtain ⟨k1,k2⟩:=hk
   have:k=l.length:=by omega
   subst this
   rw [List.take_length] at k2
   exact k2.symm
def zJQ (l:List Int):Ann:=Ann.leaf
theorem zGj (l:List Int):vcg Tryz.prog jXb 5 (zQA Tryz.f51) (zJQ l) kn0 (zQ0 [RV.d (dS l.length (is l))]) (post Tryz.prog Tryz.f51.results.toList (·=RV.d (dQ (fitL 0 255 (ints (is l)))))) =
 (let zz0:=(dQ (fitL (0:Int) (255:Int) (ints ((is l))))); tU2 ((Ans Tryz.prog 93 [rJ (0),rJ (255),RV.d (dS l.length (is l))] (RV.d zz0))∧True∧RV.d zz0=RV.d (dQ (fitL 0 255 (ints (is l)))))):=by kernel_rfl
theorem zJP (l:List Int):Ans Tryz.prog 51 [RV.d (DV.sl l.length (is l))] (RV.d (DV.bool (fitL 0 255 (ints (is l))))):=
 zQo (Γ:=jXb) (zJQ l) zQC Tryz.func51 rfl (Nat.le_of_ble_eq_true rfl) fun hwf=>by
  refine Eq.mpr (zGj l) ?_
  delta tU2 dQ dS rJ
  simp only [true_and,and_true,RV.d.injEq,RV.agg.injEq,RV.tup.injEq,DV.bool.injEq,DV.int.injEq,DV.sl.injEq,List.cons.injEq,forall_const,Bool.not_false,Bool.not_true,Bool.not_eq_true',Bool.not_eq_false',decide_eq_true_eq,decide_eq_false_iff_not,Int.toNat_natCast]
  simp only [zQZ]
  have:=zYB 0 255 l
  simp only [zQZ] at this
  exact this
def zYA (l:List Int):Ann:=Ann.leaf
theorem zWl (l:List Int):vcg Tryz.prog jXb 5 (zQA Tryz.f53) (zYA l) kn0 (zQ0 [RV.d (dS l.length (is l))]) (post Tryz.prog Tryz.f53.results.toList (·=RV.d (dQ (fitL 0 4294967295 (ints (is l)))))) =
 (let zz0:=(dQ (fitL (0:Int) (4294967295:Int) (ints ((is l))))); tU2 ((Ans Tryz.prog 93 [rJ (0),rJ (4294967295),RV.d (dS l.length (is l))] (RV.d zz0))∧True∧RV.d zz0=RV.d (dQ (fitL 0 4294967295 (ints (is l)))))):=by kernel_rfl
theorem zYz (l:List Int):Ans Tryz.prog 53 [RV.d (DV.sl l.length (is l))] (RV.d (DV.bool (fitL 0 4294967295 (ints (is l))))):=
 zQo (Γ:=jXb) (zYA l) zQC Tryz.func53 rfl (Nat.le_of_ble_eq_true rfl) fun hwf=>by
  refine Eq.mpr (zWl l) ?_
  delta tU2 dQ dS rJ
  simp only [true_and,and_true,RV.d.injEq,RV.agg.injEq,RV.tup.injEq,DV.bool.injEq,DV.int.injEq,DV.sl.injEq,List.cons.injEq,forall_const,Bool.not_false,Bool.not_true,Bool.not_eq_true',Bool.not_eq_false',decide_eq_true_eq,decide_eq_false_iff_not,Int.toNat_natCast]
  simp only [zQZ]
  have:=zYB 0 4294967295 l
  simp only [zQZ] at this
  exact this
def zJd (l:List Int):Ann:=Ann.leaf
theorem zUO (l:List Int):vcg Tryz.prog jXb 5 (zQA Tryz.f52) (zJd l) kn0 (zQ0 [RV.d (dS l.length (is l))]) (post Tryz.prog Tryz.f52.results.toList (·=RV.d (dQ (fitL (-2147483648) 2147483647 (ints (is l)))))) =
 (let zz0:=(dQ (fitL (-2147483648:Int) (2147483647:Int) (ints ((is l))))); tU2 ((Ans Tryz.prog 93 [rJ ((-2147483648:Int)),rJ (2147483647),RV.d (dS l.length (is l))] (RV.d zz0))∧True∧RV.d zz0=RV.d (dQ (fitL (-2147483648) 2147483647 (ints (is l)))))):=by kernel_rfl
theorem zJc (l:List Int):Ans Tryz.prog 52 [RV.d (DV.sl l.length (is l))] (RV.d (DV.bool (fitL (-2147483648) 2147483647 (ints (is l))))):=
 zQo (Γ:=jXb) (zJd l) zQC Tryz.func52 rfl (Nat.le_of_ble_eq_true rfl) fun hwf=>by
  refine Eq.mpr (zUO l) ?_
  delta tU2 dQ dS rJ
  simp only [true_and,and_true,RV.d.injEq,RV.agg.injEq,RV.tup.injEq,DV.bool.injEq,DV.int.injEq,DV.sl.injEq,List.cons.injEq,forall_const,Bool.not_false,Bool.not_true,Bool.not_eq_true',Bool.not_eq_false',decide_eq_true_eq,decide_eq_false_iff_not,Int.toNat_natCast]
  simp only [zQZ]
  have:=zYB (-2147483648) 2147483647 l
  simp only [zQZ] at this
  exact this
end Go.Proofs.YtheidkkebdhmkaaGreatDoor
namespace Go.Proofs.YtheidkkebdhmkaaGreatDoor
open Go.RowKit
set_option linter.unusedVariables false
set_option linter.unusedSimpArgs false
def imQ (xs:List DV) (i:Nat):Im:=⟨(nAt xs (i)),(nAt xs (i+1)),(bAt xs (i+1+1)),⟨(nAt xs (i+1+1+1)),(nAt xs (i+1+1+1+1)),(nAt xs (i+1+1+1+1+1)),(nAt xs (i+1+1+1+1+1+1)),(nAt xs (i+1+1+1+1+1+1+1))⟩,⟨(nAt xs (i+1+1+1+1+1+1+1+1)),(nAt xs (i+1+1+1+1+1+1+1+1+1)),(nAt xs (i+1+1+1+1+1+1+1+1+1+1)),(lAt xs (i+1+1+1+1+1+1+1+1+1+1+1)),(cAt xs (i+1+1+1+1+1+1+1+1+1+1+1))⟩,⟨(nAt xs (i+1+1+1+1+1+1+1+1+1+1+1+1)),(nAt xs (i+1+1+1+1+1+1+1+1+1+1+1+1+1)),(nAt xs (i+1+1+1+1+1+1+1+1+1+1+1+1+1+1)),(lAt xs (i+1+1+1+1+1+1+1+1+1+1+1+1+1+1+1)),(cAt xs (i+1+1+1+1+1+1+1+1+1+1+1+1+1+1+1))⟩,⟨(nAt xs (i+1+1+1+1+1+1+1+1+1+1+1+1+1+1+1+1)),(nAt xs (i+1+1+1+1+1+1+1+1+1+1+1+1+1+1+1+1+1)),(nAt xs (i+1+1+1+1+1+1+1+1+1+1+1+1+1+1+1+1+1+1)),(lAt xs (i+1+1+1+1+1+1+1+1+1+1+1+1+1+1+1+1+1+1+1)),(cAt xs (i+1+1+1+1+1+1+1+1+1+1+1+1+1+1+1+1+1+1+1))⟩,⟨(nAt xs (i+1+1+1+1+1+1+1+1+1+1+1+1+1+1+1+1+1+1+1+1)),(nAt xs (i+1+1+1+1+1+1+1+1+1+1+1+1+1+1+1+1+1+1+1+1+1)),(nAt xs (i+1+1+1+1+1+1+1+1+1+1+1+1+1+1+1+1+1+1+1+1+1+1)),(lAt xs (i+1+1+1+1+1+1+1+1+1+1+1+1+1+1+1+1+1+1+1+1+1+1+1)),(cAt xs (i+1+1+1+1+1+1+1+1+1+1+1+1+1+1+1+1+1+1+1+1+1+1+1))⟩,⟨(nAt xs (i+1+1+1+1+1+1+1+1+1+1+1+1+1+1+1+1+1+1+1+1+1+1+1+1)),(nAt xs (i+1+1+1+1+1+1+1+1+1+1+1+1+1+1+1+1+1+1+1+1+1+1+1+1+1)),(nAt xs (i+1+1+1+1+1+1+1+1+1+1+1+1+1+1+1+1+1+1+1+1+1+1+1+1+1+1)),(lAt xs (i+1+1+1+1+1+1+1+1+1+1+1+1+1+1+1+1+1+1+1+1+1+1+1+1+1+1+1)),(cAt xs (i+1+1+1+1+1+1+1+1+1+1+1+1+1+1+1+1+1+1+1+1+1+1+1+1+1+1+1))⟩⟩
def imQr (xs:List DV) (i:Nat):Prop:=(xs[i]?=some (DV.int .i64 (nAt xs (i))))∧(xs[i+1]?=some (DV.int .i64 (nAt xs (i+1))))∧(xs[i+1+1]?=some (DV.bool (bAt xs (i+1+1))))∧(xs[i+1+1+1]?=some (DV.int .u16 (nAt xs (i+1+1+1))))∧(xs[i+1+1+1+1]?=some (DV.int .u16 (nAt xs (i+1+1+1+1))))∧(xs[i+1+1+1+1+1]?=some (DV.int .u16 (nAt xs (i+1+1+1+1+1))))∧(xs[i+1+1+1+1+1+1]?=some (DV.int .u16 (nAt xs (i+1+1+1+1+1+1))))∧(xs[i+1+1+1+1+1+1+1]?=some (DV.int .u16 (nAt xs (i+1+1+1+1+1+1+1))))∧(xs[i+1+1+1+1+1+1+1+1]?=some (DV.int .i64 (nAt xs (i+1+1+1+1+1+1+1+1))))∧(xs[i+1+1+1+1+1+1+1+1+1]?=some (DV.int .i64 (nAt xs (i+1+1+1+1+1+1+1+1+1))))∧(xs[i+1+1+1+1+1+1+1+1+1+1]?=some (DV.int .i64 (nAt xs (i+1+1+1+1+1+1+1+1+1+1))))∧(xs[i+1+1+1+1+1+1+1+1+1+1+1]?=some (DV.sl (lAt xs (i+1+1+1+1+1+1+1+1+1+1+1)) (cAt xs (i+1+1+1+1+1+1+1+1+1+1+1))))∧(xs[i+1+1+1+1+1+1+1+1+1+1+1+1]?=some (DV.int .i64 (nAt xs (i+1+1+1+1+1+1+1+1+1+1+1+1))))∧(xs[i+1+1+1+1+1+1+1+1+1+1+1+1+1]?=some (DV.int .i64 (nAt xs (i+1+1+1+1+1+1+1+1+1+1+1+1+1))))∧(xs[i+1+1+1+1+1+1+1+1+1+1+1+1+1+1]?=some (DV.int .i64 (nAt xs (i+1+1+1+1+1+1+1+1+1+1+1+1+1+1))))∧(xs[i+1+1+1+1+1+1+1+1+1+1+1+1+1+1+1]?=some (DV.sl (lAt xs (i+1+1+1+1+1+1+1+1+1+1+1+1+1+1+1)) (cAt xs (i+1+1+1+1+1+1+1+1+1+1+1+1+1+1+1))))∧(xs[i+1+1+1+1+1+1+1+1+1+1+1+1+1+1+1+1]?=some (DV.int .i64 (nAt xs (i+1+1+1+1+1+1+1+1+1+1+1+1+1+1+1+1))))∧(xs[i+1+1+1+1+1+1+1+1+1+1+1+1+1+1+1+1+1]?=some (DV.int .i64 (nAt xs (i+1+1+1+1+1+1+1+1+1+1+1+1+1+1+1+1+1))))∧(xs[i+1+1+1+1+1+1+1+1+1+1+1+1+1+1+1+1+1+1]?=some (DV.int .i64 (nAt xs (i+1+1+1+1+1+1+1+1+1+1+1+1+1+1+1+1+1+1))))∧(xs[i+1+1+1+1+1+1+1+1+1+1+1+1+1+1+1+1+1+1+1]?=some (DV.sl (lAt xs (i+1+1+1+1+1+1+1+1+1+1+1+1+1+1+1+1+1+1+1)) (cAt xs (i+1+1+1+1+1+1+1+1+1+1+1+1+1+1+1+1+1+1+1))))∧(xs[i+1+1+1+1+1+1+1+1+1+1+1+1+1+1+1+1+1+1+1+1]?=some (DV.int .i64 (nAt xs (i+1+1+1+1+1+1+1+1+1+1+1+1+1+1+1+1+1+1+1+1))))∧(xs[i+1+1+1+1+1+1+1+1+1+1+1+1+1+1+1+1+1+1+1+1+1]?=some (DV.int .i64 (nAt xs (i+1+1+1+1+1+1+1+1+1+1+1+1+1+1+1+1+1+1+1+1+1))))∧(xs[i+1+1+1+1+1+1+1+1+1+1+1+1+1+1+1+1+1+1+1+1+1+1]?=some (DV.int .i64 (nAt xs (i+1+1+1+1+1+1+1+1+1+1+1+1+1+1+1+1+1+1+1+1+1+1))))∧(xs[i+1+1+1+1+1+1+1+1+1+1+1+1+1+1+1+1+1+1+1+1+1+1+1]?=some (DV.sl (lAt xs (i+1+1+1+1+1+1+1+1+1+1+1+1+1+1+1+1+1+1+1+1+1+1+1)) (cAt xs (i+1+1+1+1+1+1+1+1+1+1+1+1+1+1+1+1+1+1+1+1+1+1+1))))∧(xs[i+1+1+1+1+1+1+1+1+1+1+1+1+1+1+1+1+1+1+1+1+1+1+1+1]?=some (DV.int .i64 (nAt xs (i+1+1+1+1+1+1+1+1+1+1+1+1+1+1+1+1+1+1+1+1+1+1+1+1))))∧(xs[i+1+1+1+1+1+1+1+1+1+1+1+1+1+1+1+1+1+1+1+1+1+1+1+1+1]?=some (DV.int .i64 (nAt xs (i+1+1+1+1+1+1+1+1+1+1+1+1+1+1+1+1+1+1+1+1+1+1+1+1+1))))∧(xs[i+1+1+1+1+1+1+1+1+1+1+1+1+1+1+1+1+1+1+1+1+1+1+1+1+1+1]?=some (DV.int .i64 (nAt xs (i+1+1+1+1+1+1+1+1+1+1+1+1+1+1+1+1+1+1+1+1+1+1+1+1+1+1))))∧(xs[i+1+1+1+1+1+1+1+1+1+1+1+1+1+1+1+1+1+1+1+1+1+1+1+1+1+1+1]?=some (DV.sl (lAt xs (i+1+1+1+1+1+1+1+1+1+1+1+1+1+1+1+1+1+1+1+1+1+1+1+1+1+1+1)) (cAt xs (i+1+1+1+1+1+1+1+1+1+1+1+1+1+1+1+1+1+1+1+1+1+1+1+1+1+1+1))))∧True
def oqQ (xs:List DV) (i:Nat):Oq:=⟨(nAt xs (i)),(nAt xs (i+1)),(nAt xs (i+1+1)),(nAt xs (i+1+1+1)),(nAt xs (i+1+1+1+1)),(nAt xs (i+1+1+1+1+1)),(nAt xs (i+1+1+1+1+1+1)),(nAt xs (i+1+1+1+1+1+1+1)),(nAt xs (i+1+1+1+1+1+1+1+1)),(nAt xs (i+1+1+1+1+1+1+1+1+1)),(bAt xs (i+1+1+1+1+1+1+1+1+1+1)),(bAt xs (i+1+1+1+1+1+1+1+1+1+1+1))⟩
def oqQr (xs:List DV) (i:Nat):Prop:=(xs[i]?=some (DV.int .i64 (nAt xs (i))))∧(xs[i+1]?=some (DV.int .i64 (nAt xs (i+1))))∧(xs[i+1+1]?=some (DV.int .i64 (nAt xs (i+1+1))))∧(xs[i+1+1+1]?=some (DV.int .i64 (nAt xs (i+1+1+1))))∧(xs[i+1+1+1+1]?=some (DV.int .i64 (nAt xs (i+1+1+1+1))))∧(xs[i+1+1+1+1+1]?=some (DV.int .i64 (nAt xs (i+1+1+1+1+1))))∧(xs[i+1+1+1+1+1+1]?=some (DV.int .i64 (nAt xs (i+1+1+1+1+1+1))))∧(xs[i+1+1+1+1+1+1+1]?=some (DV.int .u16 (nAt xs (i+1+1+1+1+1+1+1))))∧(xs[i+1+1+1+1+1+1+1+1]?=some (DV.int .i64 (nAt xs (i+1+1+1+1+1+1+1+1))))∧(xs[i+1+1+1+1+1+1+1+1+1]?=some (DV.int .i64 (nAt xs (i+1+1+1+1+1+1+1+1+1))))∧(xs[i+1+1+1+1+1+1+1+1+1+1]?=some (DV.bool (bAt xs (i+1+1+1+1+1+1+1+1+1+1))))∧(xs[i+1+1+1+1+1+1+1+1+1+1+1]?=some (DV.bool (bAt xs (i+1+1+1+1+1+1+1+1+1+1+1))))∧True
def pxQ (xs:List DV) (i:Nat):Px:=⟨(nAt xs (i)),(nAt xs (i+1)),(nAt xs (i+1+1)),(nAt xs (i+1+1+1)),(nAt xs (i+1+1+1+1))⟩
def pxQr (xs:List DV) (i:Nat):Prop:=(xs[i]?=some (DV.int .u16 (nAt xs (i))))∧(xs[i+1]?=some (DV.int .u16 (nAt xs (i+1))))∧(xs[i+1+1]?=some (DV.int .u16 (nAt xs (i+1+1))))∧(xs[i+1+1+1]?=some (DV.int .u16 (nAt xs (i+1+1+1))))∧(xs[i+1+1+1+1]?=some (DV.int .u16 (nAt xs (i+1+1+1+1))))∧True
def imC (m:Im):List Cl:=[Cl.d (DV.int .i64 m.w),Cl.d (DV.int .i64 m.h),Cl.d (DV.bool m.so),Cl.d (DV.int .u16 m.c.a),Cl.d (DV.int .u16 m.c.b),Cl.d (DV.int .u16 m.c.c),Cl.d (DV.int .u16 m.c.al),Cl.d (DV.int .u16 m.c.f),Cl.d (DV.int .i64 m.p0.w),Cl.d (DV.int .i64 m.p0.h),Cl.d (DV.int .i64 m.p0.s),Cl.d (DV.sl m.p0.n m.p0.xs),Cl.d (DV.int .i64 m.p1.w),Cl.d (DV.int .i64 m.p1.h),Cl.d (DV.int .i64 m.p1.s),Cl.d (DV.sl m.p1.n m.p1.xs),Cl.d (DV.int .i64 m.p2.w),Cl.d (DV.int .i64 m.p2.h),Cl.d (DV.int .i64 m.p2.s),Cl.d (DV.sl m.p2.n m.p2.xs),Cl.d (DV.int .i64 m.p3.w),Cl.d (DV.int .i64 m.p3.h),Cl.d (DV.int .i64 m.p3.s),Cl.d (DV.sl m.p3.n m.p3.xs),Cl.d (DV.int .i64 m.p4.w),Cl.d (DV.int .i64 m.p4.h),Cl.d (DV.int .i64 m.p4.s),Cl.d (DV.sl m.p4.n m.p4.xs)]
def oqC (m:Oq):List Cl:=[Cl.d (DV.int .i64 m.kind),Cl.d (DV.int .i64 m.image),Cl.d (DV.int .i64 m.x),Cl.d (DV.int .i64 m.y),Cl.d (DV.int .i64 m.mask),Cl.d (DV.int .i64 m.mx),Cl.d (DV.int .i64 m.my),Cl.d (DV.int .u16 m.opac),Cl.d (DV.int .i64 m.oper),Cl.d (DV.int .i64 m.mode),Cl.d (DV.bool m.iso),Cl.d (DV.bool m.kno)]
def oqD (m:Oq):AV:=AV.agg [Cl.d (DV.int .i64 m.kind),Cl.d (DV.int .i64 m.image),Cl.d (DV.int .i64 m.x),Cl.d (DV.int .i64 m.y),Cl.d (DV.int .i64 m.mask),Cl.d (DV.int .i64 m.mx),Cl.d (DV.int .i64 m.my),Cl.d (DV.int .u16 m.opac),Cl.d (DV.int .i64 m.oper),Cl.d (DV.int .i64 m.mode),Cl.d (DV.bool m.iso),Cl.d (DV.bool m.kno)]
def pxC (m:Px):List Cl:=[Cl.d (DV.int .u16 m.a),Cl.d (DV.int .u16 m.b),Cl.d (DV.int .u16 m.c),Cl.d (DV.int .u16 m.al),Cl.d (DV.int .u16 m.f)]
def pxD (m:Px):AV:=AV.agg [Cl.d (DV.int .u16 m.a),Cl.d (DV.int .u16 m.b),Cl.d (DV.int .u16 m.c),Cl.d (DV.int .u16 m.al),Cl.d (DV.int .u16 m.f)]
def zYy (m:Im):Int:=if m.so then 19 else 9+10*(m.w*m.h)
def zZw:List Im→Int
 | []=>0
 | m::l=>zYy m+zZw l
theorem zGf:∀ (l m:List Im),zZw (l++m)=zZw l+zZw m
 | [],m=>by simp [zZw]
 | a::l,m=>by rw [List.cons_append,zZw,zZw,zGf l m]; omega
def opOk (o:Oq):Bool:=fitL 0 255 [o.kind,o.image,o.mask,o.oper,o.mode] && fitL (-2147483648) 2147483647 [o.x,o.y,o.mx,o.my]
def zVW (s:Scr):Bool:=
 fitL 0 255 [s.bits] && fitL (-2147483648) 2147483647 [s.c.a,s.c.b,s.c.c,s.c.d] && fitL 0 4294967295 [s.tw,s.th] && fitL 0 4294967295 s.ord && decide (s.ims.length≤64) && decide (s.ops.length≤4096)
def zXL (s:Scr) (l:List Im):Int:=34+4*(s.ord.length:Int)+24*(s.ops.length:Int)+zZw l
def zXc (s:Scr):Bool:=zVW s && s.ims.all Im.formed && s.ops.all opOk && decide (zXL s s.ims≤67108864)
end Go.Proofs.YtheidkkebdhmkaaGreatDoor
namespace Go.Proofs.YtheidkkebdhmkaaGreatDoor
open Go.RowKit
set_option linter.unusedVariables false
set_option linter.unusedSimpArgs false
attribute [local irreducible] Ans AnsO AnsG AnsN AnsI
set_option maxRecDepth 4000
theorem jZp (m:Im):(m.valid 0=0∨m.valid 0=8)↔m.formed=true:=by
 unfold Im.valid Im.formed
 cases zQQ m.w m.h <;> cases m.inner <;> simp
 repeat' split
 all_goals omega
theorem all_take' {α:Type} {f:α→Bool} {l:List α} {k:Nat} (h:k < l.length):(l.take (k+1)).all f=((l.take k).all f && f l[k]):=by
 rw [List.take_succ_eq_append_getElem h,List.all_append]
 simp
theorem all_false' {α:Type} {f:α→Bool} {l:List α} {k:Nat} (h:k < l.length) (hf:f l[k]=false):l.all f=false:=by
 rw [List.all_eq_false]
 exact ⟨l[k],List.getElem_mem h,by rw [hf]; simp⟩
theorem jZy {m:Im} (h:m.formed=true):19≤zYy m∧zYy m≤167772169∧1≤m.w*m.h∧m.w*m.h≤16777216:=by
 have h1:zQQ m.w m.h=true:=by unfold Im.formed at h; exact (Bool.and_eq_true_iff.1 h).1
 have h2:1≤m.w*m.h∧m.w*m.h≤16777216:=by
  simp only [zQQ,Bool.and_eq_true,decide_eq_true_eq] at h1
  have:0 < m.w*m.h:=Int.mul_pos (by omega) (by omega)
  omega
 unfold zYy
 split <;> omega
theorem jZx {l:List Im} {k:Nat} (h:k < l.length):zZw (l.take (k+1))=zZw (l.take k)+zYy l[k]:=by
 rw [List.take_succ_eq_append_getElem h,zGf]
 simp [zZw]
theorem zHM {l:List Im} (h:l.all Im.formed=true):0≤zZw l∧zZw l≤167772169*(l.length:Int):=by
 induction l with
 | nil=>simp [zZw]
 | cons m l ih=>
  simp only [List.all_cons,Bool.and_eq_true] at h
  have:=ih h.2
  have:=jZy h.1
  simp only [zZw,List.length_cons]
  omega
def jWc:Gam where
 pure:=fun f xs=>
  if f=94 then (match xs with | [.agg [.int _ w,.int _ h,.bool so,.int _ c0,.int _ c1,.int _ c2,.int _ ca,.int _ cf,.int _ w0,.int _ h0,.int _ s0,.sl n0 xs0,.int _ w1,.int _ h1,.int _ s1,.sl n1 xs1,.int _ w2,.int _ h2,.int _ s2,.sl n2 xs2,.int _ w3,.int _ h3,.int _ s3,.sl n3 xs3,.int _ w4,.int _ h4,.int _ s4,.sl n4 xs4],.d (.int _ most)]=>some (rJ ((Im.valid ⟨w,h,so,⟨c0,c1,c2,ca,cf⟩,⟨w0,h0,s0,n0,xs0⟩,⟨w1,h1,s1,n1,xs1⟩,⟨w2,h2,s2,n2,xs2⟩,⟨w3,h3,s3,n3,xs3⟩,⟨w4,h4,s4,n4,xs4⟩⟩ most))) | _=>none) else
  if f=51 then (match xs with | [.d (.sl n xs)]=>some (RV.d (dQ (fitL 0 255 (ints (xs))))) | _=>none) else
  if f=52 then (match xs with | [.d (.sl n xs)]=>some (RV.d (dQ (fitL (-2147483648) 2147483647 (ints (xs))))) | _=>none) else
  if f=53 then (match xs with | [.d (.sl n xs)]=>some (RV.d (dQ (fitL 0 4294967295 (ints (xs))))) | _=>none) else
  if f=54 then (match xs with | [.agg [.int _ w,.int _ h,.bool so,.int _ c0,.int _ c1,.int _ c2,.int _ ca,.int _ cf,.int _ w0,.int _ h0,.int _ s0,.sl n0 xs0,.int _ w1,.int _ h1,.int _ s1,.sl n1 xs1,.int _ w2,.int _ h2,.int _ s2,.sl n2 xs2,.int _ w3,.int _ h3,.int _ s3,.sl n3 xs3,.int _ w4,.int _ h4,.int _ s4,.sl n4 xs4]]=>some (RV.d (dQ (Im.formed ⟨w,h,so,⟨c0,c1,c2,ca,cf⟩,⟨w0,h0,s0,n0,xs0⟩,⟨w1,h1,s1,n1,xs1⟩,⟨w2,h2,s2,n2,xs2⟩,⟨w3,h3,s3,n3,xs3⟩,⟨w4,h4,s4,n4,xs4⟩⟩))) | _=>none) else
  none
 modes:=fun f=>
  none
 proc:=fun f xs bs=>
  none
 iter:=fun f cs=>
  none
def zX3 (m:Im):Ann:=Ann.leaf
theorem zVj (m:Im):vcg Tryz.prog jWc 12 (zQA Tryz.f54) (zX3 m) kn0 (zQ0 [RV.agg [dJ m.w,dJ m.h,dQ m.so,dK m.c.a,dK m.c.b,dK m.c.c,dK m.c.al,dK m.c.f,dJ m.p0.w,dJ m.p0.h,dJ m.p0.s,dS m.p0.n m.p0.xs,dJ m.p1.w,dJ m.p1.h,dJ m.p1.s,dS m.p1.n m.p1.xs,dJ m.p2.w,dJ m.p2.h,dJ m.p2.s,dS m.p2.n m.p2.xs,dJ m.p3.w,dJ m.p3.h,dJ m.p3.s,dS m.p3.n m.p3.xs,dJ m.p4.w,dJ m.p4.h,dJ m.p4.s,dS m.p4.n m.p4.xs]]) (post Tryz.prog Tryz.f54.results.toList (·=RV.d (dQ (Im.formed m)))) =
 (let zz0:=((Im.valid m (0:Int))==(0:Int)); tU3 ((Ans Tryz.prog 94 [(imR (m)),RV.d (dK 0)] (rJ ((Im.valid m (0:Int)))))∧tU4 (((zz0=false→tU4 (RV.d (dQ ((Im.valid m (0:Int))==(8:Int)))=RV.d (dQ (Im.formed m))))∧(zz0=(!false)→tU2 (RV.d (dQ true)=RV.d (dQ (Im.formed m)))))))):=by kernel_rfl
theorem zKk (m:Im) (hu:m.isU):Ans Tryz.prog 54 [RV.agg [DV.int .i64 m.w,DV.int .i64 m.h,DV.bool m.so,DV.int .u16 m.c.a,DV.int .u16 m.c.b,DV.int .u16 m.c.c,DV.int .u16 m.c.al,DV.int .u16 m.c.f,DV.int .i64 m.p0.w,DV.int .i64 m.p0.h,DV.int .i64 m.p0.s,DV.sl m.p0.n m.p0.xs,DV.int .i64 m.p1.w,DV.int .i64 m.p1.h,DV.int .i64 m.p1.s,DV.sl m.p1.n m.p1.xs,DV.int .i64 m.p2.w,DV.int .i64 m.p2.h,DV.int .i64 m.p2.s,DV.sl m.p2.n m.p2.xs,DV.int .i64 m.p3.w,DV.int .i64 m.p3.h,DV.int .i64 m.p3.s,DV.sl m.p3.n m.p3.xs,DV.int .i64 m.p4.w,DV.int .i64 m.p4.h,DV.int .i64 m.p4.s,DV.sl m.p4.n m.p4.xs]] (RV.d (DV.bool (Im.formed m))):=
 zQo (Γ:=jWc) (zX3 m) zQC Tryz.func54 rfl (Nat.le_of_ble_eq_true rfl) fun hwf=>by
  refine Eq.mpr (zVj m) ?_
  delta tU2 tU3 tU4 dK dQ rJ
  simp only [true_and,and_true,RV.d.injEq,RV.agg.injEq,RV.tup.injEq,DV.bool.injEq,DV.int.injEq,DV.sl.injEq,List.cons.injEq,forall_const,Bool.not_false,Bool.not_true,Bool.not_eq_true',Bool.not_eq_false',decide_eq_true_eq,decide_eq_false_iff_not,Int.toNat_natCast]
  have:=zHB m 0 hu
  have hf:=jZp m
  refine ⟨this,fun q1=>?_,fun q1=>?_⟩
  ·have q1:¬ m.valid 0=0:=by simpa using q1
   by_cases q2:m.valid 0=8
   ·rw [hf.1 (.inr q2),q2]; rfl
   ·cases q3:m.formed with
    | true=>have:=hf.2 q3; omega
    | false=>simp [q2]
  ·have q1:m.valid 0=0:=by simpa using q1
   exact (hf.1 (.inl q1)).symm
def zYg (s:Scr):Ann:=let zz0:=(dS s.ims.length (ims s.ims)); let zz1:=(dS s.ops.length (ops s.ops)); (Ann.seq Ann.leaf (Ann.seq Ann.leaf (Ann.seq Ann.leaf (Ann.seq (Ann.seq Ann.leaf (Ann.loop ⟨Nat,fun k=>k≤s.ims.length∧(s.ims.take k).all Im.formed=true,fun k=>⟨[(1,AV.one (Cl.ptr 1 0)),(3,aJ (((zXL s (s.ims.take k))))),(69,AV.one (Cl.d zz0)),(70,aJ (((s.ims.length:Int)))),(71,aJ (((k:Int))))],[(1,bC [cJ (s.bits),cJ (s.c.a),cJ (s.c.b),cJ (s.c.c),cJ (s.c.d),cJ (s.tw),cJ (s.th),Cl.d (dS s.ord.length (is s.ord)),Cl.d zz0,Cl.d zz1])]⟩,fun k=>s.ims.length - k⟩ fun k=>Ann.leaf)) (Ann.seq (Ann.seq Ann.leaf (Ann.loop ⟨Nat,fun j=>j≤s.ops.length∧(s.ops.take j).all opOk=true,fun j=>⟨[(3,aJ (((zXL s s.ims)))),(93,AV.one (Cl.d zz1)),(94,aJ (((s.ops.length:Int)))),(95,aJ (((j:Int))))],[]⟩,fun j=>s.ops.length - j⟩ fun j=>Ann.leaf)) Ann.leaf)))))
theorem zVP (s:Scr):vcg Tryz.prog jWc 128 (zQA Tryz.f24) (zYg s) kn0 (zQ0 [RV.agg [dJ s.bits,dJ s.c.a,dJ s.c.b,dJ s.c.c,dJ s.c.d,dJ s.tw,dJ s.th,dS s.ord.length (is s.ord),dS s.ims.length (ims s.ims),dS s.ops.length (ops s.ops)]]) (post Tryz.prog Tryz.f24.results.toList (·=RV.d (dQ (zXc s)))) =
 (let yy4:=(s.ops.length:Int); let yy5:=(s.ims.length:Int); let yy6:=([dJ s.tw,dJ s.th]); let yy0:=([dJ s.c.a,dJ s.c.b,dJ s.c.c,dJ s.c.d]); let zz0:=fun (k:Nat)=>(k≤s.ims.length∧(s.ims.take k).all Im.formed=true); let zz1:=(dS s.ims.length (ims s.ims)=dS s.ims.length (ims s.ims)); let zz2:=(dJ yy5=dJ yy5); let zz3:=[dJ s.bits,dJ s.c.a,dJ s.c.b,dJ s.c.c,dJ s.c.d,dJ s.tw,dJ s.th,dS s.ord.length (is s.ord),dS s.ims.length (ims s.ims),dS s.ops.length (ops s.ops)]; let zz4:=((zz3=zz3)∧True); let zz5:=fun (k':Nat)=>(k'≤s.ims.length∧(s.ims.take k').all Im.formed=true); let zz6:=fun (k:Nat)=>fun (k':Nat)=>(s.ims.length - k' < s.ims.length - k); let zz7:=fun (k:Nat)=>fun (k':Nat)=>(dJ (wK ((k:Int)+(1:Int)))=dJ (k':Int)); let zz8:=fun (j:Nat)=>(j≤s.ops.length∧(s.ops.take j).all opOk=true); let zz9:=(dS s.ops.length (ops s.ops)=dS s.ops.length (ops s.ops)); let zz10:=(dJ yy4=dJ yy4); tU5 ((Ans Tryz.prog 51 [RV.d (dS 1 ([dJ s.bits]))] (RV.d (dQ (fitL 0 255 (ints (([dJ s.bits])))))))∧tU2 ((((!(fitL 0 255 (ints (([dJ s.bits])))))=false→tU5 (tU8 ((Ans Tryz.prog 52 [RV.d (dS 4 yy0)] (RV.d (dQ (fitL (-2147483648) 2147483647 (ints (yy0))))))∧tU3 ((((!(fitL (-2147483648) 2147483647 (ints (yy0))))=false→tU5 ((Ans Tryz.prog 53 [RV.d (dS 2 yy6)] (RV.d (dQ (fitL 0 4294967295 (ints (yy6))))))∧tU3 ((((!(fitL 0 4294967295 (ints (yy6))))=false→tU2 ((Ans Tryz.prog 53 [RV.d (dS s.ord.length (is s.ord))] (RV.d (dQ (fitL 0 4294967295 (ints ((is s.ord)))))))∧tU3 ((((!(fitL 0 4294967295 (ints ((is s.ord)))))=false→tU6 ((((decide (yy5 > (64:Int)))=false→tU5 ((((decide (yy4 > (4096:Int)))=true→True∧RV.d (dQ false)=RV.d (dQ (zXc s)))∧((decide (yy4 > (4096:Int)))=false→tU7 (tU8 (((∃ k:Nat,(zz0 k)∧(((0=0)∧(dJ (wK ((wK ((34:Int)+(wK ((4:Int)*(s.ord.length:Int)))))+(wK ((24:Int)*yy4))))=dJ (zXL s (s.ims.take k)))∧zz1∧zz2∧(dJ 0=dJ (k:Int))∧True)∧zz4))∧∀ k:Nat,let yy1:=(imQ (ims s.ims) ((k:Int).toNat*28)); (zz0 k)→True∧(((decide ((k:Int) < yy5))=true→(0≤(k:Int)∧(k:Int) < yy5∧(k:Int).toNat*28 < (ims s.ims).length)∧((imQr (ims s.ims) ((k:Int).toNat*28)))∧tU3 ((Ans Tryz.prog 54 [imR yy1] (RV.d (dQ (Im.formed yy1))))∧True∧(((!(Im.formed yy1))=true→True∧RV.d (dQ false)=RV.d (dQ (zXc s)))∧((!(Im.formed yy1))=false→tU4 ((((!(bAt (ims s.ims) ((k:Int).toNat*28+1+1)))=true→tU6 (tU8 (∃ k':Nat,(zz5 k')∧(zz6 k k')∧(((0=0)∧(dJ (wK ((zXL s (s.ims.take k))+(wK ((9:Int)+(wK ((10:Int)*(wK ((nAt (ims s.ims) ((k:Int).toNat*28))*(nAt (ims s.ims) ((k:Int).toNat*28+1))))))))))=dJ (zXL s (s.ims.take k')))∧zz1∧zz2∧(zz7 k k')∧True)∧zz4))))∧((!(bAt (ims s.ims) ((k:Int).toNat*28+1+1)))=false→tU8 (∃ k':Nat,(zz5 k')∧(zz6 k k')∧(((0=0)∧(dJ (wK ((zXL s (s.ims.take k))+(wK ((9:Int)+(wK ((10:Int)*(1:Int)))))))=dJ (zXL s (s.ims.take k')))∧zz1∧zz2∧(zz7 k k')∧True)∧zz4)))))))))∧((decide ((k:Int) < yy5))=false→tU4 (((∃ j:Nat,(zz8 j)∧(((dJ (zXL s (s.ims.take k))=dJ (zXL s s.ims))∧zz9∧zz10∧(dJ 0=dJ (j:Int))∧True)∧(True)))∧∀ j:Nat,let yy2:=([dJ (nAt (ops s.ops) ((j:Int).toNat*12)),dJ (nAt (ops s.ops) ((j:Int).toNat*12+1)),dJ (nAt (ops s.ops) ((j:Int).toNat*12+1+1+1+1)),dJ (nAt (ops s.ops) ((j:Int).toNat*12+1+1+1+1+1+1+1+1)),dJ (nAt (ops s.ops) ((j:Int).toNat*12+1+1+1+1+1+1+1+1+1))]); let yy3:=([dJ (nAt (ops s.ops) ((j:Int).toNat*12+1+1)),dJ (nAt (ops s.ops) ((j:Int).toNat*12+1+1+1)),dJ (nAt (ops s.ops) ((j:Int).toNat*12+1+1+1+1+1)),dJ (nAt (ops s.ops) ((j:Int).toNat*12+1+1+1+1+1+1))]); (zz8 j)→True∧(((decide ((j:Int) < yy4))=true→(0≤(j:Int)∧(j:Int) < yy4∧(j:Int).toNat*12 < (ops s.ops).length)∧((oqQr (ops s.ops) ((j:Int).toNat*12)))∧tU5 (tU8 ((Ans Tryz.prog 51 [RV.d (dS 5 yy2)] (RV.d (dQ (fitL 0 255 (ints (yy2))))))∧tU2 ((((!(fitL 0 255 (ints (yy2))))=false→True∧tU8 ((Ans Tryz.prog 52 [RV.d (dS 4 yy3)] (RV.d (dQ (fitL (-2147483648) 2147483647 (ints (yy3))))))∧tU2 ((((!(fitL (-2147483648) 2147483647 (ints (yy3))))=true→True∧RV.d (dQ false)=RV.d (dQ (zXc s)))∧((!(fitL (-2147483648) 2147483647 (ints (yy3))))=false→tU2 (∃ j':Nat,(j'≤s.ops.length∧(s.ops.take j').all opOk=true)∧(s.ops.length - j' < s.ops.length - j)∧(((dJ (zXL s s.ims)=dJ (zXL s s.ims))∧zz9∧zz10∧(dJ (wK ((j:Int)+(1:Int)))=dJ (j':Int))∧True)∧(True))))))))∧((!(fitL 0 255 (ints (yy2))))=(!false)→tU2 (RV.d (dQ false)=RV.d (dQ (zXc s)))))))))∧((decide ((j:Int) < yy4))=false→tU3 (RV.d (dQ (decide ((zXL s s.ims)≤(67108864:Int))))=RV.d (dQ (zXc s))))))))))))))))∧((decide (yy5 > (64:Int)))=(!false)→tU2 (RV.d (dQ false)=RV.d (dQ (zXc s)))))))∧((!(fitL 0 4294967295 (ints ((is s.ord)))))=(!false)→tU4 (RV.d (dQ false)=RV.d (dQ (zXc s))))))))∧((!(fitL 0 4294967295 (ints (yy6))))=(!false)→tU6 (RV.d (dQ false)=RV.d (dQ (zXc s))))))))∧((!(fitL (-2147483648) 2147483647 (ints (yy0))))=(!false)→tU8 (RV.d (dQ false)=RV.d (dQ (zXc s)))))))))∧((!(fitL 0 255 (ints (([dJ s.bits])))))=(!false)→tU2 (tU8 (RV.d (dQ false)=RV.d (dQ (zXc s))))))))):=by kernel_rfl
theorem zYf (s:Scr) (hM:∀ m∈s.ims,m.isU) (hos:s.ord.length≤17592186044416):Ans Tryz.prog 24 [RV.agg [DV.int .i64 s.bits,DV.int .i64 s.c.a,DV.int .i64 s.c.b,DV.int .i64 s.c.c,DV.int .i64 s.c.d,DV.int .i64 s.tw,DV.int .i64 s.th,DV.sl s.ord.length (is s.ord),DV.sl s.ims.length (ims s.ims),DV.sl s.ops.length (ops s.ops)]] (RV.d (DV.bool (zXc s))):=
 zQo (Γ:=jWc) (zYg s) zQC Tryz.func24 rfl (Nat.le_of_ble_eq_true rfl) fun hwf=>by
  refine Eq.mpr (zVP s) ?_
  delta tU2 tU3 tU4 tU5 tU6 tU7 tU8 dJ dQ wK dS
  simp only [true_and,and_true,RV.d.injEq,RV.agg.injEq,RV.tup.injEq,DV.bool.injEq,DV.int.injEq,DV.sl.injEq,List.cons.injEq,forall_const,Bool.not_false,Bool.not_true,Bool.not_eq_true',Bool.not_eq_false',decide_eq_true_eq,decide_eq_false_iff_not,Int.toNat_natCast,imQ,imQr,oqQr]
  have a1:=zJP [s.bits]
  have a2:=zJc [s.c.a,s.c.b,s.c.c,s.c.d]
  have a3:=zYz [s.tw,s.th]
  have a4:=zYz s.ord
  clear hwf
  have fal:zVW s=false→false=zXc s:=fun h=>by simp [zXc,h]
  simp only [zQZ] at a4 ⊢
  refine ⟨a1,fun h1=>⟨a2,fun h2=>⟨a3,fun h3=>⟨a4,fun h4=>⟨fun h5=>⟨fun h6=>?_,fun h6=>?_⟩,fun h5=>?_⟩,fun h4=>?_⟩,fun h3=>?_⟩,fun h2=>?_⟩,fun h1=>?_⟩
  ·exact fal (by simp [zVW]; omega)
  ·have g1:fitL 0 255 [s.bits]=true:=h1
   have g2:fitL (-2147483648) 2147483647 [s.c.a,s.c.b,s.c.c,s.c.d]=true:=h2
   have g3:fitL 0 4294967295 [s.tw,s.th]=true:=h3
   have hd:zVW s=true:=by simp only [zVW,g1,g2,g3,h4,Bool.and_true,Bool.true_and,Bool.and_eq_true,decide_eq_true_eq]; omega
   have w0:∀ n:Int,-1000000000000000≤n→n≤1000000000000000→IntKind.wrap .i64 n=n:=fun n a b=>IntWalk.i64_in _ ⟨by omega,by omega⟩
   have hs0:IntKind.wrap .i64 (IntKind.wrap .i64 (34+IntKind.wrap .i64 (4*(s.ord.length:Int)))+IntKind.wrap .i64 (24*(s.ops.length:Int)))=zXL s []:=by
    rw [w0 (4*(s.ord.length:Int)) (by omega) (by omega),w0 (34+4*(s.ord.length:Int)) (by omega) (by omega),w0 (24*(s.ops.length:Int)) (by omega) (by omega),w0 _ (by omega) (by omega)]
    simp [zXL,zZw]
   refine ⟨⟨0,⟨Nat.zero_le _,by simp⟩,by rw [hs0]; rfl,rfl⟩,fun k hk=>⟨fun hlt=>?_,fun hge=>?_⟩⟩
   ·obtain ⟨k1,k2⟩:=hk
    have hk:k < s.ims.length:=by omega
    have q1:=jZ4 hk
    have q2:=jZ5 hk
    have w1:IntKind.wrap .i64 ((k:Int)+1)=((k+1:Nat):Int):=by rw [w0 _ (by omega) (by omega)]; omega
    have wf:=zKk s.ims[k] (hM _ (List.getElem_mem hk))
    simp only [q2,w1]
    refine ⟨⟨by omega,by omega,by rw [zXq]; omega⟩,q1,wf,fun h7=>?_,fun h7=>?_⟩
    ·have h7:s.ims[k].formed=false:=h7
     simp [zXc,all_false' hk h7]
    ·have h7:s.ims[k].formed=true:=h7
     have hz:=jZy h7
     have hzl:=zHM k2
     have hl:(s.ims.take k).length≤64:=by rw [List.length_take]; omega
     have hz2:zXL s (s.ims.take (k+1))=zXL s (s.ims.take k)+zYy s.ims[k]:=by simp only [zXL,jZx hk]; omega
     have hz3:0≤zXL s (s.ims.take k)∧zXL s (s.ims.take k)≤100000000000000:=by simp only [zXL]; omega
     have hin:k+1≤s.ims.length∧(s.ims.take (k+1)).all Im.formed=true:=⟨by omega,by rw [all_take' hk,k2,h7]; rfl⟩
     refine ⟨fun h8=>⟨k+1,hin,by omega,?_,rfl⟩,fun h8=>⟨k+1,hin,by omega,?_,rfl⟩⟩
     ·have hsz:zYy s.ims[k]=9+10*(s.ims[k].w*s.ims[k].h):=by unfold zYy; rw [if_neg (by rw [h8]; simp)]
      rw [hz2,hsz]
      generalize s.ims[k].w*s.ims[k].h=a at *
      rw [w0 a (by omega) (by omega),w0 (10*a) (by omega) (by omega),w0 (9+10*a) (by omega) (by omega),w0 _ (by omega) (by omega)]
     ·have hsz:zYy s.ims[k]=19:=by unfold zYy; rw [if_pos h8]
      rw [hz2,hsz]
      rw [w0 (10*1) (by omega) (by omega),w0 (9+10*1) (by omega) (by omega),w0 _ (by omega) (by omega)]
      omega
   ·obtain ⟨k1,k2⟩:=hk
    have:k=s.ims.length:=by omega
    subst this
    rw [List.take_length] at k2
    refine ⟨⟨0,⟨Nat.zero_le _,by simp⟩,by rw [List.take_length],rfl⟩,fun j hj=>⟨fun hlt=>?_,fun hge=>?_⟩⟩
    ·obtain ⟨j1,j2⟩:=hj
     have hj:j < s.ops.length:=by omega
     have q1:=zGA hj
     have q2:=zGC hj
     have w1:IntKind.wrap .i64 ((j:Int)+1)=((j+1:Nat):Int):=by rw [w0 _ (by omega) (by omega)]; omega
     have b1:=zJP [s.ops[j].kind,s.ops[j].image,s.ops[j].mask,s.ops[j].oper,s.ops[j].mode]
     have b2:=zJc [s.ops[j].x,s.ops[j].y,s.ops[j].mx,s.ops[j].my]
     simp only [q2,w1]
     have bad:opOk s.ops[j]=false→false=zXc s:=fun h=>by simp [zXc,all_false' hj h]
     refine ⟨⟨by omega,by omega,by rw [zZl]; omega⟩,q1,b1,fun h7=>⟨b2,fun h8=>bad ?_,fun h8=>⟨j+1,⟨by omega,?_⟩,by omega,rfl⟩⟩,fun h7=>bad ?_⟩
     ·have h8:fitL (-2147483648) 2147483647 [s.ops[j].x,s.ops[j].y,s.ops[j].mx,s.ops[j].my]=false:=h8
      simp [opOk,h8]
     ·have h7:fitL 0 255 [s.ops[j].kind,s.ops[j].image,s.ops[j].mask,s.ops[j].oper,s.ops[j].mode]=true:=h7
      have h8:fitL (-2147483648) 2147483647 [s.ops[j].x,s.ops[j].y,s.ops[j].mx,s.ops[j].my]=true:=h8
      rw [all_take' hj,j2]
      simp [opOk,h7,h8]
     ·have h7:fitL 0 255 [s.ops[j].kind,s.ops[j].image,s.ops[j].mask,s.ops[j].oper,s.ops[j].mode]=false:=h7
      simp [opOk,h7]
    ·obtain ⟨j1,j2⟩:=hj
     have:j=s.ops.length:=by omega
     subst this
     rw [List.take_length] at j2
     simp [zXc,hd,k2,j2]
  ·exact fal (by simp [zVW]; omega)
  ·exact fal (by simp [zVW,h4])
  ·have h3:fitL 0 4294967295 [s.tw,s.th]=false:=h3
   exact fal (by simp [zVW,h3])
  ·have h2:fitL (-2147483648) 2147483647 [s.c.a,s.c.b,s.c.c,s.c.d]=false:=h2
   exact fal (by simp [zVW,h2])
  ·have h1:fitL 0 255 [s.bits]=false:=h1
   exact fal (by simp [zVW,h1])
end Go.Proofs.YtheidkkebdhmkaaGreatDoor
namespace Go.Proofs.YtheidkkebdhmkaaGreatDoor
open Go.RowKit
set_option linter.unusedVariables false
set_option linter.unusedSimpArgs false
attribute [local irreducible] Ans AnsO AnsG AnsN AnsI
set_option maxRecDepth 4000
theorem jWe {m:Im} (h:m.formed=true):1≤m.w∧m.w≤16777216:=by
 have h1:zQQ m.w m.h=true:=by unfold Im.formed at h; exact (Bool.and_eq_true_iff.1 h).1
 simp only [zQQ,Bool.and_eq_true,decide_eq_true_eq] at h1
 have:m.w*1≤m.w*m.h:=Int.mul_le_mul_of_nonneg_left (by omega) (by omega)
 omega
end Go.Proofs.YtheidkkebdhmkaaGreatDoor
namespace Go.Proofs.YtheidkkebdhmkaaGreatDoor
open Go.RowKit
set_option linter.unusedVariables false
set_option linter.unusedSimpArgs false
def Cl.thaw (bx:Nat→Bx):Cl→Option DV
 | .d v=>some v
 | .nil=>some (.sl 0 [])
 | .ref b n=>match zZ5 (bx b) with
  | some xs=>some (.sl n xs)
  | none=>none
 | _=>none
def jJ8 (bx:Nat→Bx):List Cl→Option (List DV)
 | []=>some []
 | c::cs=>match c.thaw bx,jJ8 bx cs with
  | some d,some ds=>some (d::ds)
  | _,_=>none
mutual
def AV.thaw (bx:Nat→Bx):AV→Option RV
 | .one c=>match c.thaw bx with
  | some d=>some (.d d)
  | none=>none
 | .agg cs=>match jJ8 bx cs with
  | some ds=>some (.agg ds)
  | none=>none
 | .tup vs=>match AV.thawL bx vs with
  | some rs=>some (.tup rs)
  | none=>none
def AV.thawL (bx:Nat→Bx):List AV→Option (List RV)
 | []=>some []
 | x::xs=>match x.thaw bx,AV.thawL bx xs with
  | some r,some rs=>some (r::rs)
  | _,_=>none
end
section
variable {w:World} {V V':Nat→Prop} {ι:zQF} {bx:Nat→Bx}
theorem jJ9 (hk:∀ g,V g→V' g) (hb:∀ b,zXd w V ι bx b (bx b)) (ho:∀ b g c,(bx b).live=true→ι b=some (g,c)→V' g) {c:Cl} {d:DV} {v:Value} (h:c.thaw bx=some d) (hr:zQM w V ι bx c v):RepD w V' d v:=by
 have hkk:zZA w V w V':=fun g off u hV hu=>⟨hk g hV,hu⟩
 cases c with
 | d x=>
  simp only [Cl.thaw,Option.some.injEq] at h
  subst h
  exact RepD.keep hkk hr
 | nil=>
  simp only [Cl.thaw,Option.some.injEq] at h
  subst h
  simp only [zQM] at hr
  simp only [RepD]
  exact ⟨none,0,hr,Nat.le_refl _,Nat.zero_le _,fun hne=>absurd rfl hne⟩
 | ref b n=>
  simp only [Cl.thaw] at h
  split at h
  ·rename_i xs hin
   simp only [Option.some.injEq] at h
   subst h
   simp only [zQM] at hr
   have hbb:=hb b
   cases hB:bx b with
   | row e size ys=>
    rw [hB] at hin hbb
    simp only [zZ5,Option.some.injEq] at hin
    subst hin
    obtain ⟨_,⟨h1,h2,h3⟩ | ⟨g,cap,h1,h2,h3⟩⟩:=hr
    ·rcases hbb with ⟨h4,h5⟩ | ⟨g,cap,cur,h4,_⟩
     ·subst h5 h2
      simp only [RepD]
      exact ⟨none,0,h3,Nat.le_refl _,Nat.zero_le _,fun hne=>absurd rfl hne⟩
     ·rw [h1] at h4; cases h4
    ·rcases hbb with ⟨h4,h5⟩ | ⟨g',cap',cur,h4,h5,h6,h7,h8⟩
     ·rw [h1] at h4; cases h4
     ·rw [h1] at h4
      injection h4 with h4
      injection h4 with h4 h4'
      subst h4 h4'
      simp only [RepD]
      exact ⟨_,cap,h2,h3,h6,fun hne=>⟨g,0,rfl,ho b g cap (by rw [hB]; rfl) h1,RepCells.of_row h5 (h8.keep hkk)⟩⟩
   | ice ys=>
    rw [hB] at hin hbb
    simp only [zZ5,Option.some.injEq] at hin
    subst hin
    obtain ⟨_,⟨h1,h2,h3⟩ | ⟨g,cap,h1,h2,h3⟩⟩:=hr
    ·rcases hbb with ⟨h4,h5⟩ | ⟨g,cap,h4,_⟩
     ·subst h5 h2
      simp only [RepD]
      exact ⟨none,0,h3,Nat.le_refl _,Nat.zero_le _,fun hne=>absurd rfl hne⟩
     ·rw [h1] at h4; cases h4
    ·rcases hbb with ⟨h4,h5⟩ | ⟨g',cap',h4,h5,h6⟩
     ·rw [h1] at h4; cases h4
     ·rw [h1] at h4
      injection h4 with h4
      injection h4 with h4 h4'
      subst h4 h4'
      simp only [RepD]
      refine ⟨_,cap,h2,h3,h6,fun hne=>⟨g,0,rfl,?_⟩⟩
      have h9:=Lies.keep hkk h5
      exact h9 hne
   | fresh=>rw [hB] at hin; cases hin
   | gone=>rw [hB] at hin; cases hin
   | cells cs=>rw [hB] at hin; cases hin
  ·cases h
 | lit u=>cases h
 | ptr b off=>cases h
 | vp cs off=>cases h
 | clo f cs=>cases h
 | dead=>cases h
theorem jYv (hk:∀ g,V g→V' g) (hb:∀ b,zXd w V ι bx b (bx b)) (ho:∀ b g c,(bx b).live=true→ι b=some (g,c)→V' g):∀ {cs:List Cl} {ds:List DV} {vs:List Value},jJ8 bx cs=some ds→zQW w V ι bx cs vs→zZk w V' ds vs
 | [],ds,vs,h,hr=>by
  simp only [jJ8,Option.some.injEq] at h
  subst h
  cases vs with
  | nil=>trivial
  | cons _ _=>exact hr.elim
 | c::cs,ds,vs,h,hr=>by
  simp only [jJ8] at h
  split at h
  ·rename_i d ds' h1 h2
   simp only [Option.some.injEq] at h
   subst h
   cases vs with
   | nil=>exact hr.elim
   | cons v vs=>exact ⟨jJ9 hk hb ho h1 hr.1,jYv hk hb ho h2 hr.2⟩
  ·cases h
mutual
theorem jKa (hk:∀ g,V g→V' g) (hb:∀ b,zXd w V ι bx b (bx b)) (ho:∀ b g c,(bx b).live=true→ι b=some (g,c)→V' g):∀ {x:AV} {r:RV} {v:Value},x.thaw bx=some r→zQs w V ι bx x v→RepR w V' r v
 | .one c,r,v,h,hr=>by
  simp only [AV.thaw] at h
  split at h
  ·rename_i d h1
   simp only [Option.some.injEq] at h
   subst h
   simp only [zQs] at hr
   simp only [RepR]
   exact jJ9 hk hb ho h1 hr
  ·cases h
 | .agg cs,r,v,h,hr=>by
  simp only [AV.thaw] at h
  split at h
  ·rename_i d h1
   simp only [Option.some.injEq] at h
   subst h
   simp only [zQs] at hr
   obtain ⟨cur,e,hr⟩:=hr
   simp only [RepR]
   exact ⟨cur,e,jYv hk hb ho h1 hr⟩
  ·cases h
 | .tup vs,r,v,h,hr=>by
  simp only [AV.thaw] at h
  split at h
  ·rename_i d h1
   simp only [Option.some.injEq] at h
   subst h
   simp only [zQs] at hr
   obtain ⟨cur,e,hr⟩:=hr
   simp only [RepR]
   exact ⟨cur,e,thaw_avs hk hb ho h1 hr⟩
  ·cases h
theorem thaw_avs (hk:∀ g,V g→V' g) (hb:∀ b,zXd w V ι bx b (bx b)) (ho:∀ b g c,(bx b).live=true→ι b=some (g,c)→V' g):∀ {xs:List AV} {rs:List RV} {vs:List Value},AV.thawL bx xs=some rs→RepAVs w V ι bx xs vs→RepRs w V' rs vs
 | [],rs,vs,h,hr=>by
  simp only [AV.thawL,Option.some.injEq] at h
  subst h
  cases vs with
  | nil=>simp only [RepRs]
  | cons _ _=>simp only [RepAVs] at hr
 | x::xs,rs,vs,h,hr=>by
  simp only [AV.thawL] at h
  split at h
  ·rename_i d ds' h1 h2
   simp only [Option.some.injEq] at h
   subst h
   cases vs with
   | nil=>simp only [RepAVs] at hr
   | cons v vs=>
    simp only [RepAVs] at hr
    simp only [RepRs]
    exact ⟨jKa hk hb ho h1 hr.1,thaw_avs hk hb ho h2 hr.2⟩
  ·cases h
end
end
theorem AnsG.ans {P:Program} {f:FuncId} {args:List AV} {rs:List RV} {r:Ret} {res:RV} (h:AnsG P f 0 args [] r) (ha:args=RV.avs rs) (hr:r.res.thaw (zQO r.outs)=some res):Ans P f rs res:=by
 subst ha
 intro w S vs hg hrep
 have hno:∀ b,(zQO ([]:List Bx) b)=.fresh:=fun b=>by simp [zQO]
 have hnone:∀ g,¬ OwnB (zQO ([]:List Bx)) (fun _=>none) g:=fun g ⟨b,c,hl,e⟩=>by rw [hno] at hl; cases hl
 have hh:zKT w S (fun _=>none) (RV.avs rs) [] vs.toList:=by
  refine ⟨fun b g c hl e=>?_,fun b b' g c c' hl hl' hne e=>?_,fun b=>?_,rep_avs hrep⟩
  ·rw [hno] at hl; cases hl
  ·rw [hno] at hl; cases hl
  ·rw [hno]; trivial
 refine (h w S _ vs hg hh).mono fun ed w' hp=>?_
 obtain ⟨v,ι',rfl,ha⟩:=hp
 refine ⟨v,rfl,jKa (fun g hV=>?_) ha.bx (fun b g c hl e=>?_) hr ha.rep,ha.bel.below hnone⟩
 ·rcases hV.1 with ⟨_,h⟩ | h | h
  ·exact .inl h
  ·exact .inr h
  ·exact absurd h (hnone g)
 ·rcases (ha.own b g c hl e).1 with h | h
  ·exact .inr h
  ·exact absurd h (hnone g)
end Go.Proofs.YtheidkkebdhmkaaGreatDoor
namespace Go.Proofs.YtheidkkebdhmkaaGreatDoor
open Go.RowKit
set_option linter.unusedVariables false
set_option linter.unusedSimpArgs false
attribute [local irreducible] Ans AnsO AnsG AnsN AnsI
set_option maxHeartbeats 4000000
set_option maxRecDepth 4000
open Go.Lib
structure RP where
  s:Scr
  hd:Int
  part:Int
  left:Int
  w:Int
  h:Int
  px:List Px
def iAt (l:List Int) (k:Nat):Int:=(l[k]?).getD 0
def s32 (ws:List Lb):List Int × Bool:=jQR ws (-2147483648) 2147483647
def u32 (ws:List Lb):List Int × Bool:=jQR ws 0 4294967295
def nz (ws:List Lb):List Int × Bool:=jQR ((ws.drop 1).take 2) 1 16777216
def zYG:Lb:=[98,105,116,115]
def zZL:Lb:=[99,97,110,118,97,115]
def zXo:Lb:=[116,105,108,101,115]
def zZD:Lb:=[111,114,100,101,114]
def zQ9:Lb:=[115,111,108,105,100]
def zQ5:Lb:=[105,109,97,103,101]
def zJx (p:RP) (ws:List Lb):RP × Bool:=
 if p.hd=1 then (if ws.length=2∧wAt ws 0=zYG then ({ p with s:={ p.s with bits:=(numR (wAt ws 1) 0 255).1 } },(numR (wAt ws 1) 0 255).2) else (p,false))
 else if p.hd=2 then (if (s32 (ws.drop 1)).2=true∧(s32 (ws.drop 1)).1.length=4∧wAt ws 0=zZL then ({ p with s:={ p.s with c:=⟨iAt (s32 (ws.drop 1)).1 0,iAt (s32 (ws.drop 1)).1 1,iAt (s32 (ws.drop 1)).1 2,iAt (s32 (ws.drop 1)).1 3⟩ } },true) else (p,false))
 else (if (u32 (ws.drop 1)).2=true∧(u32 (ws.drop 1)).1.length=2∧wAt ws 0=zXo then ({ p with s:={ p.s with tw:=iAt (u32 (ws.drop 1)).1 0,th:=iAt (u32 (ws.drop 1)).1 1 } },true) else (p,false))
def zYD (p:RP) (ws:List Lb):RP × Bool:=
 if 1 < p.part∨64≤p.s.ims.length∨ws.length < 3 then ({ p with part:=1 },false)
 else if (nz ws).2=false∨16777216 / iAt (nz ws).1 0 < iAt (nz ws).1 1 then ({ p with part:=1 },false)
 else if wAt ws 0=zQ9 then ({ p with part:=1,s:={ p.s with ims:=p.s.ims++[zQd (iAt (nz ws).1 0) (iAt (nz ws).1 1) (pixW (ws.drop 3)).1] } },(pixW (ws.drop 3)).2)
 else ({ p with part:=1,w:=iAt (nz ws).1 0,h:=iAt (nz ws).1 1,left:=iAt (nz ws).1 0*iAt (nz ws).1 1 },decide (ws.length=3))
def zJj (p:RP) (t:Lb):RP × Bool:=
 if 0 < p.left then
  (if p.left=1 then ({ p with left:=0,s:={ p.s with ims:=p.s.ims++[imOf p.w p.h (p.px++[(pixW (zQp t)).1])] },px:=[] },(pixW (zQp t)).2)
   else ({ p with left:=p.left - 1,px:=p.px++[(pixW (zQp t)).1] },(pixW (zQp t)).2))
 else if p.hd < 3 then zJx { p with hd:=p.hd+1 } (zQp t)
 else if wAt (zQp t) 0=zZD then ({ p with part:=1,s:={ p.s with ord:=(u32 ((zQp t).drop 1)).1 } },(u32 ((zQp t).drop 1)).2 && decide (0 < (u32 ((zQp t).drop 1)).1.length) && decide (p.part=0))
 else if wAt (zQp t) 0=zQ9∨wAt (zQp t) 0=zQ5 then zYD p (zQp t)
 else ({ p with part:=2,s:={ p.s with ops:=p.s.ops++[(opR (zQp t)).1] } },(opR (zQp t)).2 && decide (p.s.ops.length < 4096))
theorem jW6 {ws r:List Lb} (i n:Nat) (h:r=ws.drop i) (hn:n=r.length):List.take (n*1) (List.drop (i*1) (strs ws))=strs r:=by
 subst h hn
 unfold strs
 rw [Nat.mul_one,Nat.mul_one,← List.map_drop,List.take_of_length_le (by simp)]
end Go.Proofs.YtheidkkebdhmkaaGreatDoor
namespace Go.Proofs.YtheidkkebdhmkaaGreatDoor
open Go.RowKit
set_option linter.unusedVariables false
set_option linter.unusedSimpArgs false
attribute [local irreducible] Ans AnsO AnsG AnsN AnsI
set_option maxHeartbeats 4000000
set_option maxRecDepth 4000
open Go.Lib
def zScr:Scr:=⟨0,⟨0,0,0,0⟩,0,0,[],[],[]⟩
def zRP:RP:=⟨zScr,0,0,0,0,0,[]⟩
def rGo (p:RP) (n:Int) (acc:Lb):Lb→Scr × Int × Int
 | []=>if acc≠[]∨p.hd < 3∨0 < p.left then (zScr,n+1,19) else if zXc p.s=true then (p.s,0,0) else (zScr,0,19)
 | c::r=>if c=10 then (if (zJj p acc).2=true then rGo (zJj p acc).1 (n+1) [] r else (zScr,n+1,19)) else rGo p n (acc++[c]) r
def jZO (t:Lb):Scr × Int × Int:=rGo zRP 0 [] t
structure RP.ok (p:RP) (k:Nat):Prop where
  im:p.s.ims.length≤k
  op:p.s.ops.length≤k
  px:p.px.length≤k
  l0:0≤p.left
  l1:p.left≤16777216
  h0:0≤p.hd
theorem RP.ok.mono {p:RP} {k:Nat} (h:p.ok k):p.ok (k+1):=by
 obtain ⟨a,b,c,d,e,f⟩:=h
 exact ⟨by omega,by omega,by omega,d,e,f⟩
structure Rz where
  i:Nat
  fr:Nat
  n:Nat
  p:RP
def Rz.acc (z:Rz) (t:Lb):Lb:=(t.drop z.fr).take (z.i - z.fr)
theorem Scr.eta_ (s:Scr):(⟨s.bits,s.c,s.tw,s.th,s.ord,s.ims,s.ops⟩:Scr)=s:=rfl
theorem RP.eta_ (p:RP):(⟨p.s,p.hd,p.part,p.left,p.w,p.h,p.px⟩:RP)=p:=rfl
theorem Rz.step {t:Lb} {z:Rz} (h:z.i < t.length):t.drop z.i=(t[z.i]?).getD 0::t.drop (z.i+1):=by
 rw [List.drop_eq_getElem_cons h,List.getElem?_eq_getElem h]; rfl
end Go.Proofs.YtheidkkebdhmkaaGreatDoor
namespace Go.Proofs.YtheidkkebdhmkaaGreatDoor
open Go.RowKit
set_option linter.unusedVariables false
set_option linter.unusedSimpArgs false
attribute [local irreducible] Ans AnsO AnsG AnsN AnsI
set_option maxRecDepth 4000
theorem sizeIm_le' {m:Im} (h:m.formed=true):m.w*m.h≤16777216:=by
 have h1:zQQ m.w m.h=true:=by unfold Im.formed at h; exact (Bool.and_eq_true_iff.1 h).1
 simp only [zQQ,Bool.and_eq_true,decide_eq_true_eq] at h1
 omega
end Go.Proofs.YtheidkkebdhmkaaGreatDoor
namespace Go.Proofs.YtheidkkebdhmkaaGreatDoor
open Go.RowKit
set_option linter.unusedVariables false
set_option linter.unusedSimpArgs false
attribute [local irreducible] Ans AnsO AnsG AnsN AnsI
set_option maxRecDepth 4000
structure Enc (s:Scr):Prop where
  fm:s.ims.all Im.formed=true
  sz:zXL s s.ims≤67108864
  bits:0≤s.bits∧s.bits≤255
  il:s.ims.length≤64
  ol:s.ops.length≤4096
end Go.Proofs.YtheidkkebdhmkaaGreatDoor
namespace Go.Proofs.YtheidkkebdhmkaaGreatDoor
open Go.RowKit
set_option linter.unusedVariables false
set_option linter.unusedSimpArgs false
attribute [local irreducible] Ans AnsO AnsG AnsN AnsI
set_option maxRecDepth 4000
end Go.Proofs.YtheidkkebdhmkaaGreatDoor
namespace Go.Proofs.YtheidkkebdhmkaaGreatDoor
open Go.RowKit
set_option linter.unusedVariables false
set_option linter.unusedSimpArgs false
attribute [local irreducible] Ans AnsO AnsG AnsN AnsI
set_option maxHeartbeats 4000000
set_option maxRecDepth 4000
open Go.Lib
def prtO (o:Oq):Bool:=
 if o.kind=1 then !o.iso && !o.kno && decide (1≤o.oper∧o.oper < 13) && decide (1≤o.mode∧o.mode < 13)
 else if o.kind=2 then decide (o.image=0) && decide (o.x=0) && decide (o.y=0) && decide (1≤o.oper∧o.oper < 13) && decide (1≤o.mode∧o.mode < 13)
 else if o.kind=3 then decide (o=popO) else false
def zUc (s:Scr):Bool:=zXc s && s.ops.all prtO
def smpP (p:Px):List Int:=[p.a,p.b,p.c,p.al,p.f]
def bitN (b:Bool):Int:=if b then 1 else 0
def zVt (o:Oq):Lb:=[32]++ofS (zQj o.oper)++[32]++ofS (zQc o.mode)
def opTx (o:Oq):Lb:=
 if o.kind=1 then zQ3 zZ9 [o.image,o.x,o.y,o.mask,o.mx,o.my,o.opac]++zVt o
 else if o.kind=2 then zQ3 zXi [o.mask,o.mx,o.my,o.opac]++zQ3 (zVt o) [bitN o.iso,bitN o.kno]
 else sPop
def pxTx (p:Px):Lb:=zQ3 [] (smpP p)++[10]
def imTx (m:Im):Lb:=if m.so then zQ3 (zQ3 zQ9 [m.w,m.h]) (smpP m.c)++[10] else zQ3 zQ5 [m.w,m.h]++[10]++m.pixels.flatMap pxTx
def hdTx (s:Scr):Lb:=zQ3 zYG [s.bits]++[10]++zQ3 zZL [s.c.a,s.c.b,s.c.c,s.c.d]++[10]++zQ3 zXo [s.tw,s.th]++[10]
def orTx (s:Scr):Lb:=if 0 < s.ord.length then zQ3 zZD s.ord++[10] else []
def opLn (o:Oq):Lb:=opTx o++[10]
def fmtT (s:Scr):Lb:=hdTx s++orTx s++s.ims.flatMap imTx++s.ops.flatMap opLn
theorem jKO {w:Lb} {l:List Int} (h:∀ n∈l,-9223372036854775808≤n∧n≤9223372036854775807):(zQ3 w l).length≤w.length+22*l.length:=by
 induction l generalizing w with
 | nil=>simp [zQ3]
 | cons n l ih=>
  have h1:=jQX n (h n (by simp))
  have h2:=ih (w:=(if w=[] then [] else w++[32])++itoa n) fun m hm=>h m (by simp [hm])
  have h3:zQ3 w (n::l)=zQ3 ((if w=[] then [] else w++[32])++itoa n) l:=rfl
  have h4:((if w=[] then [] else w++[32])++itoa n).length≤w.length+1+(itoa n).length:=by
   rw [List.length_append]
   split <;> simp
  rw [h3,List.length_cons]
  omega
theorem jJI (op:Int):(ofS (zQj op)).length≤20:=by
 by_cases h:1≤op∧op < 13
 ·rcases zKY h with rfl | rfl | rfl | rfl | rfl | rfl | rfl | rfl | rfl | rfl | rfl | rfl <;> decide +kernel
 ·simp [zQj,h,ofS]
theorem jZW (op:Int):(ofS (zQc op)).length≤20:=by
 by_cases h:1≤op∧op < 13
 ·rcases zKY h with rfl | rfl | rfl | rfl | rfl | rfl | rfl | rfl | rfl | rfl | rfl | rfl <;> decide +kernel
 ·simp [zQc,h,ofS]
theorem jVm (b:Bool):0≤bitN b∧bitN b≤1:=by cases b <;> simp [bitN]
def fmtR (s:Scr):Lb × Int:=if zUc s=true then (fmtT s,0) else ([],19)
end Go.Proofs.YtheidkkebdhmkaaGreatDoor
namespace Go.Proofs.YtheidkkebdhmkaaGreatDoor
open Go.RowKit
set_option linter.unusedVariables false
set_option linter.unusedSimpArgs false
set_option linter.unusedVariables false
end Go.Proofs.YtheidkkebdhmkaaGreatDoor
namespace Go.Proofs.YtheidkkebdhmkaaGreatDoor
open Go.RowKit
set_option linter.unusedVariables false
set_option linter.unusedSimpArgs false
attribute [local irreducible] Ans AnsO AnsG AnsN AnsI
set_option maxRecDepth 4000
end Go.Proofs.YtheidkkebdhmkaaGreatDoor
namespace Go.Proofs.YtheidkkebdhmkaaGreatDoor
open Go.RowKit
set_option linter.unusedVariables false
set_option linter.unusedSimpArgs false
theorem jKL (v:Int):zHx v=true ↔ -1048576≤v∧v≤1048576:=by simp [zHx]
theorem Im.list_so {m:Im} (hs:m.so=true) (n:Nat):m.list n=List.replicate n m.c:=by
 unfold Im.list
 refine List.ext_getElem (by simp) fun i h1 h2=>?_
 simp [Im.nth,Im.px,hs]
theorem Im.count_pos {m:Im} (hf:m.formed=true):0 < m.w.toNat*m.h.toNat:=by
 obtain ⟨f1,f2,f3,f4,f5⟩:=zZ1 (Im.formed_of hf).1
 exact Nat.mul_pos (by omega) (by omega)
theorem Im.pixels_so {m:Im} (hf:m.formed=true) (hs:m.so=true):m.pixels=List.replicate (m.w.toNat*m.h.toNat) m.c:=by
 rw [Im.pixels_of hf,Im.list_so hs]
theorem Im.valid_iff {m:Im} (hf:m.formed=true) (most:Int):m.valid most=0↔∀ p∈m.pixels,p.ok most=true:=by
 obtain ⟨h1,h2⟩:=Im.formed_of hf
 unfold Im.valid
 rw [if_neg (by simp [h1]),if_neg (by simp [h2])]
 cases hs:m.so with
 | true=>
  rw [if_pos rfl,Im.pixels_so hf hs]
  have:=Im.count_pos hf
  constructor
  ·intro h p hp
   obtain ⟨_,rfl⟩:=List.mem_replicate.1 hp
   split at h
   ·assumption
   ·cases h
  ·intro h
   rw [if_pos (h m.c (List.mem_replicate.2 ⟨by omega,rfl⟩))]
 | false=>
  rw [if_neg (by simp),Im.pixels_of hf]
  unfold Im.okTo Im.count Im.list
  constructor
  ·intro h p hp
   split at h
   ·rename_i ha
    obtain ⟨k,hk,rfl⟩:=List.mem_map.1 hp
    exact List.all_eq_true.1 ha k hk
   ·cases h
  ·intro h
   rw [if_pos (List.all_eq_true.2 fun k hk=>h _ (List.mem_map.2 ⟨k,hk,rfl⟩))]
theorem zXP (n:Int) {most:Int} (h0:0≤most) (h1:most≤65535):0≤zQH n most∧zQH n most≤most:=by
 unfold zQH
 rw [IntWalk.i64_in most ⟨by omega,by omega⟩]
 have a2:=@zZB (IntKind.wrap .i64 (Int.tdiv n 8)) 2 (by omega) (by omega)
 have a4:=@zZB (IntKind.wrap .i64 (Int.tdiv n 8)) 4 (by omega) (by omega)
 split
 ·omega
 ·split
  ·omega
  ·split
   ·rw [IntWalk.i64_in (most+_) ⟨by omega,by omega⟩]
    have e:Int.tdiv (most+modS (IntKind.wrap .i64 (Int.tdiv n 8)) 2) 2=(most+modS (IntKind.wrap .i64 (Int.tdiv n 8)) 2) / 2:=Int.tdiv_eq_ediv_of_nonneg (by omega)
    rw [e,IntWalk.i64_in _ ⟨by omega,by omega⟩,IntWalk.u16_in _ ⟨by omega,by omega⟩]
    omega
   ·split
    ·rw [IntWalk.u16_in _ ⟨by omega,by omega⟩]
     omega
    ·rw [IntWalk.i64_in (most+1) ⟨by omega,by omega⟩]
     have a:=@zZB (IntKind.wrap .i64 (Int.tdiv n 8)) (most+1) (by omega) (by omega)
     rw [IntWalk.u16_in _ ⟨by omega,by omega⟩]
     omega
theorem jK0 (n0 n1 n2 n3 n4:Int) {most:Int} (h0:0≤most) (h1:most≤65535):(zZi n0 n1 n2 n3 n4 most).ok most=true∧0≤(zZi n0 n1 n2 n3 n4 most).a∧0≤(zZi n0 n1 n2 n3 n4 most).b∧0≤(zZi n0 n1 n2 n3 n4 most).c∧0≤(zZi n0 n1 n2 n3 n4 most).al:=by
 have hf:=zXP n4 h0 h1
 have key:∀ a f:Int,0≤a→a≤f→f≤most→Px.ok ⟨zQH n0 a,zQH n1 a,zQH n2 a,a,f⟩ most=true∧0≤zQH n0 a∧0≤zQH n1 a∧0≤zQH n2 a∧0≤a:=fun a f k0 k1 k2=>by
  have q0:=zXP n0 k0 (by omega)
  have q1:=zXP n1 k0 (by omega)
  have q2:=zXP n2 k0 (by omega)
  simp [Px.ok]
  omega
 unfold zZi
 simp only
 split
 ·have ha:=zXP (IntKind.wrap .i64 (Int.tdiv n3 3)) hf.1 (by omega)
  exact key _ _ ha.1 ha.2 hf.2
 ·exact key _ _ hf.1 (Int.le_refl _) hf.2
def Px.fine (p:Px) (most:Int):Prop:=p.ok most=true∧0≤p.a∧0≤p.b∧0≤p.c∧0≤p.al
theorem jJe (mood:Int) (L:Nat) (xs:List DV) {most:Int} (h0:0≤most) (h1:most≤65535) (k:Nat):(gPx mood L xs most k).fine most:=by
 have hz:Px.zero.fine most:=⟨by simp [Px.ok,Px.zero,h0],by decide,by decide,by decide,by decide⟩
 have hp:∀ k,(gPx1 L xs most k).fine most:=fun k=>jK0 _ _ _ _ _ h0 h1
 unfold gPx
 split
 ·exact hz
 ·split
  ·obtain ⟨a,b⟩:=hp k
   refine ⟨?_,b.1,b.2.1,b.2.2.1,h0⟩
   simp [Px.ok] at a ⊢
   omega
  ·split
   ·exact hp 0
   ·exact hp k
theorem zG3 (pw ph so mood:Int) (L:Nat) (xs:List DV) (x0 y0 x1 y1:Int) {most:Int} (h0:0≤most) (h1:most≤65535) (hc:1≤x1 - x0∧x1 - x0≤100∧1≤y1 - y0∧y1 - y0≤100):∀ p∈(zQI pw ph so mood L xs x0 y0 x1 y1 most).pixels,p.fine most:=by
 have hf:=(zUB pw ph so mood L xs x0 y0 x1 y1 most hc).1
 intro p hp
 rw [zWE pw ph so mood L xs x0 y0 x1 y1 most _ _ rfl rfl] at hf hp
 split at hf
 ·rename_i hs
  rw [if_pos hs,Im.pixels_so hf rfl] at hp
  obtain ⟨_,rfl⟩:=List.mem_replicate.1 hp
  exact jJe _ _ _ h0 h1 _
 ·rename_i hs
  rw [if_neg hs] at hp
  cases hk:ofOk (zYm pw 5 x0 x1 pw) (zYm ph 4 y0 y1 pw) (zQG mood L xs most (IntKind.wrap .i64 (zYm pw 5 x0 x1 pw*zYm ph 4 y0 y1 pw)).toNat).length with
  | true=>
   rw [(jYd hk).2] at hp
   unfold zQG at hp
   obtain ⟨k,_,rfl⟩:=List.mem_map.1 hp
   exact jJe _ _ _ h0 h1 _
  | false=>
   rw [zGX hk] at hf
   exact absurd hf (by decide)
def okO (bits:Int) (mn:Nat):List Oq→List Oq→Option (List Oq)
 | [],st=>some st
 | o::r,st=>if errO bits mn o st=0 then okO bits mn r (jXG o st) else none
theorem zGH {bits:Int} {mn:Nat}:∀ (l m:List Oq) (st:List Oq),okO bits mn (l++m) st=(okO bits mn l st).bind (okO bits mn m)
 | [],m,st=>rfl
 | o::l,m,st=>by
  simp only [List.cons_append,okO]
  split
  ·exact zGH l m _
  ·rfl
theorem jJk {bits:Int} {mn:Nat} {st:List Oq} (h:st≠[]):errO bits mn popO st=0:=by
 have h1:popO.kind=3:=rfl
 have h2:popO.fields=true:=by decide
 unfold errO
 rw [if_neg (by rw [h1]; simp),if_neg (by rw [h2]; simp),if_pos h1,if_neg h]
theorem jYW {bits:Int} {mn:Nat}:∀ (n:Nat) (st:List Oq),n≤st.length→okO bits mn (List.replicate n popO) st=some (st.take (st.length - n))
 | 0,st,_=>by simp [okO]
 | n+1,st,h=>by
  have hne:st≠[]:=by intro e; subst e; simp at h
  have h1:popO.kind=3:=rfl
  rw [List.replicate_succ,okO,if_pos (jJk hne)]
  have e:jXG popO st=st.dropLast:=by unfold jXG; rw [if_neg (by rw [h1]; decide),if_pos h1]
  rw [e,jYW n _ (by simp; omega),List.dropLast_eq_take,List.take_take]
  congr 2
  simp; omega
theorem jX2 {bits:Int} {mn:Nat} {o:Oq} {st:List Oq} (h:errO bits mn o st=0):okO bits mn [o] st=some (jXG o st):=by
 simp only [okO]; rw [if_pos h]
theorem zWD {n c:Int} (h : -100≤c∧c≤100) : -200≤gOff n c∧gOff n c≤200:=by
 have b:=@zZB (IntKind.wrap .i64 (Int.tdiv n 3)) 9 (by omega) (by omega)
 unfold gOff
 split <;> omega
theorem jGh {bits:Int} {mn:Nat} {r:Rw} {push:Bool} {c:Rc} {most:Int} {st:List Oq} (hm:1≤mn∧mn≤64) (hc:(-100≤c.a∧c.a≤100) ∧ -100≤c.b∧c.b≤100) (hb:jUs bits=most) (h0:0≤most∧most≤65535) (hl:st.length < 64) :
  errO bits mn (gOp r push mn c (ctxB st) most) st=0:=by
 have b1:=@zZB r.im mn (by omega) (by omega)
 have b2:=@zZB (IntKind.wrap .i64 (Int.tdiv r.ma 4)) mn (by omega) (by omega)
 have b3:=@zZB (IntKind.wrap .i64 (Int.tdiv r.ope 2)) 12 (by omega) (by omega)
 have b4:=@zZB (IntKind.wrap .i64 (Int.tdiv r.mo 2)) 12 (by omega) (by omega)
 have o1:=@zWD r.x c.a hc.1
 have o2:=@zWD r.y c.b hc.2
 have o3:=@zWD r.mx c.a hc.1
 have o4:=@zWD r.my c.b hc.2
 have s1:=zXP (IntKind.wrap .i64 (Int.tdiv r.op 2)) h0.1 h0.2
 unfold errO
 rw [hb]
 rw [if_neg (by simp [gOp]; cases push <;> simp)]
 rw [if_neg (by
  cases push <;> simp only [gOp,Oq.fields] <;> by_cases q:modS r.ma 4=0 <;> simp [q] <;> omega)]
 rw [if_neg (by cases push <;> simp [gOp])]
 rw [if_neg (by
  cases push <;> simp only [gOp] <;> by_cases q:modS r.ma 4=0 <;> simp [q] <;> omega)]
 rw [if_neg (by
  simp only [Decidable.not_not,jKL,gOp]
  refine ⟨?_,?_,?_,?_⟩ <;> split <;> omega)]
 rw [if_neg (by simp only [gOp]; split <;> omega)]
 rw [if_neg (by simp only [gOp]; split <;> omega)]
 rw [if_neg (by simp only [gOp]; split <;> omega)]
 rw [if_neg (by
  simp only [gOp]
  intro ⟨h1,h2⟩
  rw [h2] at h1
  simp at h1)]
 rw [if_neg (by omega)]
theorem Scn.bits_max (s:Scn):jUs s.bits=s.most∧jWS s.bits=true:=by
 have:=s.most_in
 unfold Scn.bits
 rcases this with h | h <;> rw [h] <;> decide
theorem Scn.run_okO (s:Scn) (k:Nat) (hk:k≤9):okO s.bits s.ims.length (s.run k).1 []=some (s.run k).2:=by
 induction k with
 | zero=>rfl
 | succ k ih=>
  have ih:=ih (by omega)
  have hl:=s.run_len k
  have F:=s.c_facts
  have li:=s.ims_len
  have hm:0≤s.most∧s.most≤65535:=by rcases s.most_in with h | h <;> rw [h] <;> omega
  by_cases h:modS (rwAt s.rxs (k*11)).k 8=0∧0 < (s.run k).2.length
  ·rw [Scn.run_pop h,zGH,ih]
   have hne:(s.run k).2≠[]:=by intro e; rw [e] at h; simp at h
   show okO _ _ [popO] _=_
   rw [jX2 (jJk hne)]
   rfl
  ·obtain ⟨r1,r2⟩:=Scn.run_op h rfl
   have he:=@jGh s.bits s.ims.length (rwAt s.rxs (k*11)) (decide (modS (rwAt s.rxs (k*11)).k 8 < 3)) s.c s.most (s.run k).2 (by omega) (by omega) s.bits_max.1 hm (by omega)
   have hkd:(gOp (rwAt s.rxs (k*11)) (decide (modS (rwAt s.rxs (k*11)).k 8 < 3)) s.ims.length s.c (ctxB (s.run k).2) s.most).kind=if modS (rwAt s.rxs (k*11)).k 8 < 3 then 2 else 1:=by simp [gOp]
   generalize gOp (rwAt s.rxs (k*11)) (decide (modS (rwAt s.rxs (k*11)).k 8 < 3)) s.ims.length s.c (ctxB (s.run k).2) s.most=o at *
   by_cases h2:o.kind=2
   ·rw [r1 h2,zGH,ih]
    show okO _ _ [o] _=_
    rw [jX2 he]
    unfold jXG
    rw [if_pos h2]
   ·have h3:o.kind≠3:=by rw [hkd]; split <;> decide
    rw [r2 h2,zGH,ih]
    show okO _ _ [o] _=_
    rw [jX2 he]
    unfold jXG
    rw [if_neg h2,if_neg h3]
theorem Scn.ops_ok (s:Scn):okO s.bits s.ims.length s.ops []=some []:=by
 unfold Scn.ops
 rw [zGH,s.run_okO _ (by omega)]
 show okO _ _ _ _=_
 rw [jYW _ _ (Nat.le_refl _),Nat.sub_self]
 rfl
theorem Scn.ops_len (s:Scn):s.ops.length≤18:=by
 have:=s.run_len (min s.rn 9)
 unfold Scn.ops
 simp; omega
theorem Scn.ord_len (s:Scn):s.ord.length≤64:=by
 have ht:=s.tiles_in
 unfold Scn.ord zXj
 split
 ·simp
 ·have:=(zW3 (ints s.oxs) (n:=s.tiles.toNat) (by omega) s.tiles.toNat (Nat.le_refl _)).2
  omega
theorem Scn.fine (s:Scn):∀ m∈s.ims,m.formed=true∧(m.w≤100∧m.h≤100)∧m.valid s.most=0∧∀ more,(zXg m more).valid s.most=0:=by
 have CF:=s.c_facts
 have hq:1≤s.c.c - s.c.a∧s.c.c - s.c.a≤100∧1≤s.c.d - s.c.b∧s.c.d - s.c.b≤100:=by have:=s.facts; omega
 have hm:0≤s.most∧s.most≤65535:=by rcases s.most_in with h | h <;> rw [h] <;> omega
 have key:∀ m:Im,m.formed=true→m.w≤100∧m.h≤100→(∀ p∈m.pixels,p.fine s.most)→m.formed=true∧(m.w≤100∧m.h≤100)∧m.valid s.most=0∧∀ more,(zXg m more).valid s.most=0:=fun m h1 h2 h3=>by
  refine ⟨h1,h2,(Im.valid_iff h1 _).2 fun p hp=>(h3 p hp).1,fun more=>(Im.valid_iff (zKG h1 h2 more) _).2 fun p hp=>?_⟩
  rw [zG2 h1 h2 more] at hp
  exact (h3 p hp).1
 intro m hmem
 unfold Scn.ims at hmem
 split at hmem
 ·rw [List.mem_singleton] at hmem
  subst hmem
  have F:=s.facts
  have hf:zQQ s.gw s.gh=true:=by
   have:=Int.mul_le_mul F.2.2.1.2 F.2.2.2.1.2 (by omega) (by omega)
   simp [zQQ]; omega
  refine key _ (zZR _ hf) ⟨by show s.gw≤100; omega,by show s.gh≤100; omega⟩ fun p hp=>?_
  change p∈(zQd s.gw s.gh ⟨s.most,0,0,s.most,s.most⟩).pixels at hp
  rw [Im.pixels_of (zZR _ hf),Im.list,List.mem_map] at hp
  obtain ⟨k,_,rfl⟩:=hp
  have e:(zQd s.gw s.gh ⟨s.most,0,0,s.most,s.most⟩).nth k=⟨s.most,0,0,s.most,s.most⟩:=by simp [Im.nth,Im.px,zQd]
  change ((zQd s.gw s.gh ⟨s.most,0,0,s.most,s.most⟩).nth k).fine s.most
  rw [e]
  exact ⟨by simp [Px.ok]; omega,by simp only; omega,by simp only; omega,by simp only; omega,by simp only; omega⟩
 ·simp only [Scn.pics,List.mem_map] at hmem
  obtain ⟨k,_,rfl⟩:=hmem
  obtain ⟨gf,g1,g2,g3,g4⟩:=zUB (nAt s.pxs (k*5)) (nAt s.pxs (k*5+1)) (nAt s.pxs (k*5+2)) (nAt s.pxs (k*5+3)) (lAt s.pxs (k*5+4)) (cAt s.pxs (k*5+4)) s.c.a s.c.b s.c.c s.c.d s.most hq
  exact key _ gf ⟨g2,g4⟩ fun p hp=>zG3 _ _ _ _ _ _ _ _ _ _ hm.1 hm.2 hq p hp
theorem zYX {lo hi:Int} {l:List Int}:fitL lo hi l=true↔∀ v∈l,lo≤v∧v≤hi:=by
 unfold fitL
 rw [List.all_eq_true]
 simp
theorem jUl {o:Oq} (h1:0≤o.kind∧o.kind≤255) (h2:0≤o.image∧o.image≤255) (h3:0≤o.mask∧o.mask≤255) (h4:0≤o.oper∧o.oper≤255) (h5:0≤o.mode∧o.mode≤255)
  (h6 : -2147483648≤o.x∧o.x≤2147483647) (h7 : -2147483648≤o.y∧o.y≤2147483647) (h8 : -2147483648≤o.mx∧o.mx≤2147483647) (h9 : -2147483648≤o.my∧o.my≤2147483647):opOk o=true:=by
 unfold opOk
 rw [Bool.and_eq_true,zYX,zYX]
 refine ⟨fun v hv=>?_,fun v hv=>?_⟩ <;> simp only [List.mem_cons,List.not_mem_nil,or_false] at hv
 ·rcases hv with rfl | rfl | rfl | rfl | rfl <;> assumption
 ·rcases hv with rfl | rfl | rfl | rfl <;> assumption
theorem jQS {v:Int} (h:zHx v=true) : -2147483648≤v∧v≤2147483647:=by
 unfold zHx at h
 have:=of_decide_eq_true h
 omega
theorem jVa {bits:Int} {mn:Nat} {o:Oq} {st:List Oq} (h:errO bits mn o st=0) (hm:mn≤64):opOk o=true:=by
 unfold errO at h
 split at h
 ·cases h
 rename_i k1
 split at h
 ·cases h
 rename_i k2
 split at h
 ·rename_i k3
  have:o=popO:=by
   unfold Oq.fields at k2
   rw [if_pos k3] at k2
   simpa using k2
  subst this
  decide
 rename_i k3
 split at h
 ·cases h
 rename_i k4
 split at h
 ·cases h
 rename_i k5
 split at h
 ·cases h
 split at h
 ·cases h
 rename_i k7
 split at h
 ·cases h
 rename_i k8
 have k5:=Classical.not_not.1 k5
 have k7:=Classical.not_not.1 k7
 have k8:=Classical.not_not.1 k8
 have k1:=Classical.not_not.1 k1
 have hi:0≤o.image∧o.image≤255:=by
  rcases k1 with k1 | k1 | k1
  ·omega
  ·unfold Oq.fields at k2
   rw [if_neg k3] at k2
   have:o.image=0:=by
    by_cases hz:o.image=0
    ·exact hz
    ·exact absurd (by simp [k1,hz]) k2
   omega
  ·exact absurd k1 k3
 exact jUl (by omega) hi (by omega) (by omega) (by omega) (jQS k5.1) (jQS k5.2.1) (jQS k5.2.2.1) (jQS k5.2.2.2)
theorem jX3 {bits:Int} {mn:Nat}:∀ {l st st':List Oq},okO bits mn l st=some st'→∀ o∈l,∃ s',errO bits mn o s'=0
 | a::l,st,st',h,o,ho=>by
  simp only [okO] at h
  split at h
  ·rcases List.mem_cons.1 ho with rfl | ho
   ·exact ⟨st,by assumption⟩
   ·exact jX3 h o ho
  ·cases h
theorem Scn.ops_fit (s:Scn):s.ops.all opOk=true:=by
 rw [List.all_eq_true]
 intro o ho
 obtain ⟨st,h⟩:=jX3 s.ops_ok o ho
 exact jVa h (by have:=s.ims_len; omega)
theorem Scn.ord_fit (s:Scn):∀ v∈s.ord,0≤v∧v≤4294967295:=by
 intro v hv
 have ht:=s.tiles_in
 by_cases hl:(ints s.oxs).length=0
 ·have:s.ord=[]:=by unfold Scn.ord zXj; rw [if_pos (.inl hl)]
  rw [this] at hv; cases hv
 ·have:=((jJH hl (by omega:s.tiles≤64)).mem_iff).1 hv
  simp only [upto,List.mem_map,List.mem_range] at this
  obtain ⟨i,hi,rfl⟩:=this
  show 0≤(i:Int)∧(i:Int)≤4294967295
  omega
theorem Scn.bits_fit (s:Scn):s.bits=8∨s.bits=16:=by
 have:=s.bits_of
 by_cases h:gMax s.b > 255
 ·exact .inr (this.1 h).symm
 ·exact .inl (this.2 h).symm
theorem zWk:∀ {l:List Im},(∀ m∈l,m.formed=true∧m.w≤100∧m.h≤100)→zZw l≤100009*(l.length:Int)
 | [],_=>by simp [zZw]
 | m::l,h=>by
  have h1:=h m (by simp)
  have h2:=zWk (l:=l) fun m hm=>h m (by simp [hm])
  have h3:=jWe h1.1
  have h4:m.w*m.h≤10000:=by
   have:=Int.mul_le_mul_of_nonneg_left h1.2.2 (by omega:0≤m.w)
   omega
  have h5:zYy m≤100009:=by unfold zYy; split <;> omega
  simp only [zZw,List.length_cons]
  omega
theorem Scn.enc (s:Scn) {ms:List Im} {os:List Oq} (h1:ms.length≤64) (h2:∀ m∈ms,m.formed=true∧m.w≤100∧m.h≤100) (h3:os.length≤100) (h4:os.all opOk=true):zXc ⟨s.bits,s.c,s.gtw,s.gth,s.ord,ms,os⟩=true:=by
 obtain ⟨f1,f2,f3,f4,f5,f6⟩:=s.facts
 have CF:=s.c_facts
 have hb:=s.bits_fit
 have ho:=s.ord_len
 have hz:=zWk h2
 have g1:fitL 0 255 [s.bits]=true:=zYX.2 fun v hv=>by
  simp only [List.mem_cons,List.not_mem_nil,or_false] at hv
  subst hv
  omega
 have g2:fitL (-2147483648) 2147483647 [s.c.a,s.c.b,s.c.c,s.c.d]=true:=zYX.2 fun v hv=>by
  simp only [List.mem_cons,List.not_mem_nil,or_false] at hv
  rcases hv with rfl | rfl | rfl | rfl <;> omega
 have g3:fitL 0 4294967295 [s.gtw,s.gth]=true:=zYX.2 fun v hv=>by
  simp only [List.mem_cons,List.not_mem_nil,or_false] at hv
  rcases hv with rfl | rfl <;> omega
 have g4:fitL 0 4294967295 s.ord=true:=zYX.2 s.ord_fit
 have g5:ms.all Im.formed=true:=List.all_eq_true.2 fun m hm=>(h2 m hm).1
 simp only [zXc,zVW,g1,g2,g3,g4,g5,h4,zXL,Bool.and_true,Bool.true_and,Bool.and_eq_true,decide_eq_true_eq]
 exact ⟨⟨h1,by omega⟩,decide_eq_true (by omega)⟩
theorem formed_of {m:Im} {most:Int} (h:m.valid most=0):m.formed=true:=by
 unfold Im.valid at h
 split at h
 ·cases h
 split at h
 ·cases h
 rename_i a b
 unfold Im.formed
 simp only [Bool.not_eq_false] at a b
 rw [a,b]; rfl
end Go.Proofs.YtheidkkebdhmkaaGreatDoor
namespace Go.Proofs.YtheidkkebdhmkaaGreatDoor
open Go.RowKit
set_option linter.unusedVariables false
set_option linter.unusedSimpArgs false
attribute [local irreducible] Ans AnsO AnsG AnsN AnsI
set_option maxRecDepth 4000
theorem jU4 (o p:Oq):(o.kind==p.kind && (o.image==p.image && (o.x==p.x && (o.y==p.y && (o.mask==p.mask && (o.mx==p.mx && (o.my==p.my && (o.opac==p.opac && (o.oper==p.oper && (o.mode==p.mode && (o.iso==p.iso && (o.kno==p.kno && true))))))))))))=decide (o=p):=by
 obtain ⟨_,_,_,_,_,_,_,_,_,_,_,_⟩:=o
 obtain ⟨_,_,_,_,_,_,_,_,_,_,_,_⟩:=p
 rw [Bool.eq_iff_iff]
 simp only [Oq.mk.injEq,Bool.and_eq_true,beq_iff_eq,decide_eq_true_eq,and_true]
def eqI (m r:Im):Bool:=(m.so==r.so) && m.equal r
def imN (l:List Im) (i:Nat):Im:=l[i]?.getD (zQd 0 0 .zero)
theorem jQd {l:List Im} {i:Nat} (h:i < l.length):imN l i=l[i]:=by simp [imN,List.getElem?_eq_getElem h]
def eqTo (a b:List Im) (k:Nat):Bool:=(List.range k).all fun i=>eqI (imN a i) (imN b i)
def zG8 (a b:List Im):Bool:=decide (a.length=b.length) && eqTo a b a.length
def eqS (s t:Scr):Bool:=decide (s.bits=t.bits) && decide (s.c=t.c) && decide (s.tw=t.tw) && decide (s.th=t.th) && decide (s.ord=t.ord) && zG8 s.ims t.ims && decide (s.ops=t.ops)
theorem jUL (s t:Scr):eqS s t=((s.bits==t.bits) && (s.c.a==t.c.a && (s.c.b==t.c.b && (s.c.c==t.c.c && (s.c.d==t.c.d && true)))) && (s.tw==t.tw) && (s.th==t.th) && decide (s.ord=t.ord) && zG8 s.ims t.ims && decide (s.ops=t.ops)):=by
 have h:decide (s.c=t.c)=(s.c.a==t.c.a && (s.c.b==t.c.b && (s.c.c==t.c.c && (s.c.d==t.c.d && true)))):=by
  obtain ⟨_,⟨_,_,_,_⟩,_,_,_,_,_⟩:=s
  obtain ⟨_,⟨_,_,_,_⟩,_,_,_,_,_⟩:=t
  rw [Bool.eq_iff_iff]
  simp only [Rc.mk.injEq,Bool.and_eq_true,beq_iff_eq,decide_eq_true_eq,and_true]
 unfold eqS
 rw [h]
 rfl
theorem jW3 {α:Type} {a b:List α} {k:Nat} (h:k < a.length) (h2:k < b.length) (e:a.take k=b.take k) (ek:a[k]=b[k]):a.take (k+1)=b.take (k+1):=by
 rw [List.take_succ_eq_append_getElem h,List.take_succ_eq_append_getElem h2,e,ek]
theorem jGo {α:Type} {a b:List α} {k:Nat} (h:k < a.length) (h2:k < b.length) (hn:a[k]≠b[k]):a≠b:=by
 intro e; subst e; exact hn rfl
theorem jUW {α:Type} {a b:List α} (he:a.length=b.length) (e:a.take a.length=b.take a.length):a=b:=by
 rw [List.take_length,he,List.take_length] at e
 exact e
theorem jVb {a b:List Im} {k:Nat} (h:k < a.length) (h2:k < b.length) (e:eqTo a b k=true) (ek:eqI a[k] b[k]=true):eqTo a b (k+1)=true:=by
 unfold eqTo at e ⊢
 rw [List.range_succ,List.all_append,e]
 simp [jQd h,jQd h2,ek]
theorem jWh {a b:List Im} {k:Nat} (h:k < a.length) (h2:k < b.length) (ek:eqI a[k] b[k]=false):eqTo a b a.length=false:=by
 unfold eqTo
 rw [List.all_eq_false]
 exact ⟨k,List.mem_range.2 h,by rw [jQd h,jQd h2,ek]; simp⟩
def jWb:Gam where
 pure:=fun f xs=>
  if f=40 then (match xs with | [.d (.sl n xs),.d (.sl m ys)]=>some (RV.d (dQ (decide (ints (xs)=ints (ys))))) | _=>none) else
  if f=41 then (match xs with | [.d (.sl n xs),.d (.sl m ys)]=>some (RV.d (dQ (decide (zZb (xs)=zZb (ys))))) | _=>none) else
  if f=42 then (match xs with | [.agg [.int _ w,.int _ h,.bool so,.int _ c0,.int _ c1,.int _ c2,.int _ ca,.int _ cf,.int _ w0,.int _ h0,.int _ s0,.sl n0 xs0,.int _ w1,.int _ h1,.int _ s1,.sl n1 xs1,.int _ w2,.int _ h2,.int _ s2,.sl n2 xs2,.int _ w3,.int _ h3,.int _ s3,.sl n3 xs3,.int _ w4,.int _ h4,.int _ s4,.sl n4 xs4],.agg [.int _ w',.int _ h',.bool so',.int _ c0',.int _ c1',.int _ c2',.int _ ca',.int _ cf',.int _ w0',.int _ h0',.int _ s0',.sl n0' xs0',.int _ w1',.int _ h1',.int _ s1',.sl n1' xs1',.int _ w2',.int _ h2',.int _ s2',.sl n2' xs2',.int _ w3',.int _ h3',.int _ s3',.sl n3' xs3',.int _ w4',.int _ h4',.int _ s4',.sl n4' xs4']]=>some (RV.d (dQ (Im.equal ⟨w,h,so,⟨c0,c1,c2,ca,cf⟩,⟨w0,h0,s0,n0,xs0⟩,⟨w1,h1,s1,n1,xs1⟩,⟨w2,h2,s2,n2,xs2⟩,⟨w3,h3,s3,n3,xs3⟩,⟨w4,h4,s4,n4,xs4⟩⟩ ⟨w',h',so',⟨c0',c1',c2',ca',cf'⟩,⟨w0',h0',s0',n0',xs0'⟩,⟨w1',h1',s1',n1',xs1'⟩,⟨w2',h2',s2',n2',xs2'⟩,⟨w3',h3',s3',n3',xs3'⟩,⟨w4',h4',s4',n4',xs4'⟩⟩))) | _=>none) else
  none
 modes:=fun f=>
  none
 proc:=fun f xs bs=>
  none
 iter:=fun f cs=>
  none
def zKO (a b:List Oq):Ann:=(Ann.seq Ann.leaf (Ann.seq Ann.leaf (Ann.seq (Ann.seq Ann.leaf (Ann.loop ⟨Nat,fun k=>k≤a.length∧a.take k=b.take k,fun k=>⟨[(0,AV.one (Cl.d (dS a.length (ops a)))),(1,AV.one (Cl.d (dS b.length (ops b)))),(5,aJ (((k:Int))))],[]⟩,fun k=>a.length - k⟩ fun k=>Ann.leaf)) Ann.leaf)))
theorem zHI (a b:List Oq):vcg Tryz.prog jWb 26 (zQA Tryz.f41) (zKO a b) kn0 (zQ0 [RV.d (dS a.length (ops a)),RV.d (dS b.length (ops b))]) (post Tryz.prog Tryz.f41.results.toList (·=RV.d (dQ (decide (zZb (ops a)=zZb (ops b)))))) =
 (let zz0:=(dQ (decide (zZb (ops a)=zZb (ops b)))); let zz1:=fun (k:Nat)=>(k≤a.length∧a.take k=b.take k); let zz2:=(dS a.length (ops a)=dS a.length (ops a)); let zz3:=(dS b.length (ops b)=dS b.length (ops b)); tU6 (((((a.length:Int) != (b.length:Int))=true→True∧RV.d (dQ false)=RV.d zz0)∧(((a.length:Int) != (b.length:Int))=false→True∧((∃ k:Nat,(zz1 k)∧((zz2∧zz3∧(dJ 0=dJ (k:Int))∧True)∧(True)))∧∀ k:Nat,let yy7:=((k:Int).toNat*12); let yy8:=((k:Int).toNat*12+1+1+1+1); let yy9:=((k:Int).toNat*12+1+1+1); let yy10:=((k:Int).toNat*12+1+1); let yy11:=((k:Int).toNat*12+1); let yy0:=((k:Int).toNat*12+1+1+1+1+1+1+1+1+1+1+1); let yy1:=((k:Int).toNat*12+1+1+1+1+1+1+1+1+1+1); let yy2:=((k:Int).toNat*12+1+1+1+1+1+1+1+1+1); let yy3:=((k:Int).toNat*12+1+1+1+1+1+1+1+1); let yy4:=((k:Int).toNat*12+1+1+1+1+1+1+1); let yy5:=((k:Int).toNat*12+1+1+1+1+1+1); let yy6:=((k:Int).toNat*12+1+1+1+1+1); (zz1 k)→tU4 ((((decide ((k:Int) < (a.length:Int)))=true→tU2 ((0≤(k:Int)∧(k:Int) < (a.length:Int)∧(k:Int).toNat*12 < (ops a).length)∧((oqQr (ops a) yy7))∧tU2 ((0≤(k:Int)∧(k:Int) < (b.length:Int)∧(k:Int).toNat*12 < (ops b).length)∧((oqQr (ops b) yy7))∧True∧(true=true)∧(((!(((nAt (ops a) yy7)==(nAt (ops b) yy7)) && (((nAt (ops a) yy11)==(nAt (ops b) yy11)) && (((nAt (ops a) yy10)==(nAt (ops b) yy10)) && (((nAt (ops a) yy9)==(nAt (ops b) yy9)) && (((nAt (ops a) yy8)==(nAt (ops b) yy8)) && (((nAt (ops a) yy6)==(nAt (ops b) yy6)) && (((nAt (ops a) yy5)==(nAt (ops b) yy5)) && (((nAt (ops a) yy4)==(nAt (ops b) yy4)) && (((nAt (ops a) yy3)==(nAt (ops b) yy3)) && (((nAt (ops a) yy2)==(nAt (ops b) yy2)) && (((bAt (ops a) yy1)==(bAt (ops b) yy1)) && (((bAt (ops a) yy0)==(bAt (ops b) yy0)) && true)))))))))))))=true→True∧RV.d (dQ false)=RV.d zz0)∧((!(((nAt (ops a) yy7)==(nAt (ops b) yy7)) && (((nAt (ops a) yy11)==(nAt (ops b) yy11)) && (((nAt (ops a) yy10)==(nAt (ops b) yy10)) && (((nAt (ops a) yy9)==(nAt (ops b) yy9)) && (((nAt (ops a) yy8)==(nAt (ops b) yy8)) && (((nAt (ops a) yy6)==(nAt (ops b) yy6)) && (((nAt (ops a) yy5)==(nAt (ops b) yy5)) && (((nAt (ops a) yy4)==(nAt (ops b) yy4)) && (((nAt (ops a) yy3)==(nAt (ops b) yy3)) && (((nAt (ops a) yy2)==(nAt (ops b) yy2)) && (((bAt (ops a) yy1)==(bAt (ops b) yy1)) && (((bAt (ops a) yy0)==(bAt (ops b) yy0)) && true)))))))))))))=false→tU3 (∃ k':Nat,(k'≤a.length∧a.take k'=b.take k')∧(a.length - k' < a.length - k)∧((zz2∧zz3∧(dJ (wK ((k:Int)+(1:Int)))=dJ (k':Int))∧True)∧(True))))))))∧((decide ((k:Int) < (a.length:Int)))=false→True∧RV.d (dQ true)=RV.d zz0)))))))):=by kernel_rfl
theorem zHj (a b:List Oq):Ans Tryz.prog 41 [RV.d (DV.sl a.length (ops a)),RV.d (DV.sl b.length (ops b))] (RV.d (DV.bool (decide (zZb (ops a)=zZb (ops b))))):=
 zQo (Γ:=jWb) (zKO a b) zQC Tryz.func41 rfl (Nat.le_of_ble_eq_true rfl) fun hwf=>by
  refine Eq.mpr (zHI a b) ?_
  delta tU2 tU3 tU4 tU6 dJ dQ wK dS
  simp only [true_and,and_true,RV.d.injEq,RV.agg.injEq,RV.tup.injEq,DV.bool.injEq,DV.int.injEq,DV.sl.injEq,List.cons.injEq,forall_const,Bool.not_false,Bool.not_true,Bool.not_eq_true',Bool.not_eq_false',decide_eq_true_eq,decide_eq_false_iff_not,Int.toNat_natCast,oqQr]
  have hil:a.length≤9223372036854775807∧b.length≤9223372036854775807:=by
   simp only [RV.wfs,RV.wf,DV.wf,maxLen] at hwf
   omega
  clear hwf
  simp only [zZu]
  refine ⟨fun h=>?_,fun h=>⟨⟨0,⟨Nat.zero_le _,by simp⟩,rfl⟩,fun k hk=>⟨fun hlt=>?_,fun hge=>?_⟩⟩⟩
  ·have h:a.length≠b.length:=by simp at h; omega
   exact (decide_eq_false (fun e=>h (congrArg List.length e))).symm
  ·obtain ⟨k1,k2⟩:=hk
   have hl:a.length=b.length:=by simp at h; omega
   have ha:k < a.length:=by omega
   have hb:k < b.length:=by omega
   have q1:=zGA ha
   have q2:=zGC ha
   have r1:=zGA hb
   have r2:=zGC hb
   have w1:IntKind.wrap .i64 ((k:Int)+1)=((k+1:Nat):Int):=by rw [IntWalk.i64_in _ ⟨by omega,by omega⟩]; omega
   simp only [q2,r2,w1]
   simp only [jU4]
   refine ⟨⟨by omega,by omega,by rw [zZl]; omega⟩,q1,⟨by omega,by omega,by rw [zZl]; omega⟩,r1,fun e=>?_,fun e=>⟨k+1,⟨by omega,jW3 ha hb k2 (by simpa using e)⟩,by omega,rfl⟩⟩
   exact (decide_eq_false (jGo ha hb (by simpa using e))).symm
  ·obtain ⟨k1,k2⟩:=hk
   have hl:a.length=b.length:=by simp at h; omega
   have:k=a.length:=by omega
   subst this
   exact (decide_eq_true (jUW hl k2)).symm
def zWI (s t:Scr):Ann:=(Ann.seq Ann.leaf (Ann.seq Ann.leaf (Ann.seq (Ann.seq Ann.leaf (Ann.loop ⟨Nat,fun k=>k≤s.ims.length∧eqTo s.ims t.ims k=true,fun k=>⟨[(2,AV.one (Cl.ptr 2 0)),(3,AV.one (Cl.ptr 3 0)),(5,aJ (((k:Int))))],[(2,bC [cJ (s.bits),cJ (s.c.a),cJ (s.c.b),cJ (s.c.c),cJ (s.c.d),cJ (s.tw),cJ (s.th),Cl.d (dS s.ord.length (is s.ord)),Cl.d (dS s.ims.length (ims s.ims)),Cl.d (dS s.ops.length (ops s.ops))]),(3,bC [cJ (t.bits),cJ (t.c.a),cJ (t.c.b),cJ (t.c.c),cJ (t.c.d),cJ (t.tw),cJ (t.th),Cl.d (dS t.ord.length (is t.ord)),Cl.d (dS t.ims.length (ims t.ims)),Cl.d (dS t.ops.length (ops t.ops))])]⟩,fun k=>s.ims.length - k⟩ fun k=>Ann.leaf)) Ann.leaf)))
theorem jXs (s t:Scr):vcg Tryz.prog jWb 91 (zQA Tryz.f16) (zWI s t) kn0 (zQ0 [RV.agg [dJ s.bits,dJ s.c.a,dJ s.c.b,dJ s.c.c,dJ s.c.d,dJ s.tw,dJ s.th,dS s.ord.length (is s.ord),dS s.ims.length (ims s.ims),dS s.ops.length (ops s.ops)],RV.agg [dJ t.bits,dJ t.c.a,dJ t.c.b,dJ t.c.c,dJ t.c.d,dJ t.tw,dJ t.th,dS t.ord.length (is t.ord),dS t.ims.length (ims t.ims),dS t.ops.length (ops t.ops)]]) (post Tryz.prog Tryz.f16.results.toList (·=RV.d (dQ (eqS s (⟨t.bits,⟨t.c.a,t.c.b,t.c.c,t.c.d⟩,t.tw,t.th,ints (is t.ord),zZ6 (ims t.ims),zZb (ops t.ops)⟩:Scr))))) =
 (let yy2:=(s.ims.length:Int); let yy0:=(dQ (eqS s (⟨t.bits,t.c,t.tw,t.th,ints (is t.ord),zZ6 (ims t.ims),zZb (ops t.ops)⟩:Scr))); let zz0:=fun (k:Nat)=>(k≤s.ims.length∧eqTo s.ims t.ims k=true); let zz1:=[dJ s.bits,dJ s.c.a,dJ s.c.b,dJ s.c.c,dJ s.c.d,dJ s.tw,dJ s.th,dS s.ord.length (is s.ord),dS s.ims.length (ims s.ims),dS s.ops.length (ops s.ops)]; let zz2:=[dJ t.bits,dJ t.c.a,dJ t.c.b,dJ t.c.c,dJ t.c.d,dJ t.tw,dJ t.th,dS t.ord.length (is t.ord),dS t.ims.length (ims t.ims),dS t.ops.length (ops t.ops)]; let zz3:=((zz1=zz1)∧(zz2=zz2)∧True); let zz4:=fun (k:Nat)=>(0≤(k:Int)∧(k:Int) < yy2∧(k:Int).toNat*28 < (ims s.ims).length); let zz5:=fun (k:Nat)=>(0≤(k:Int)∧(k:Int) < (t.ims.length:Int)∧(k:Int).toNat*28 < (ims t.ims).length); True∧tU8 ((((s.bits != t.bits)=false→tU7 ((((!((s.c.a==t.c.a) && ((s.c.b==t.c.b) && ((s.c.c==t.c.c) && ((s.c.d==t.c.d) && true)))))=false→tU7 ((((s.tw != t.tw)=false→tU7 ((((s.th != t.th)=false→tU4 ((Ans Tryz.prog 40 [RV.d (dS s.ord.length (is s.ord)),RV.d (dS t.ord.length (is t.ord))] (RV.d (dQ (decide (ints ((is s.ord))=ints ((is t.ord)))))))∧tU3 ((((!(decide (ints ((is s.ord))=ints ((is t.ord)))))=false→True∧tU8 ((((yy2 != (t.ims.length:Int))=false→tU4 ((Ans Tryz.prog 41 [RV.d (dS s.ops.length (ops s.ops)),RV.d (dS t.ops.length (ops t.ops))] (RV.d (dQ (decide (zZb ((ops s.ops))=zZb ((ops t.ops)))))))∧tU2 ((((!(decide (zZb ((ops s.ops))=zZb ((ops t.ops)))))=true→True∧RV.d (dQ false)=RV.d yy0)∧((!(decide (zZb ((ops s.ops))=zZb ((ops t.ops)))))=false→True∧((∃ k:Nat,(zz0 k)∧(((0=0)∧(0=0)∧(dJ 0=dJ (k:Int))∧True)∧zz3))∧∀ k:Nat,let yy3:=((k:Int).toNat*28+2); let yy4:=((k:Int).toNat*28); let yy1:=(Im.equal (imQ (ims s.ims) yy4) (imQ (ims t.ims) yy4)); (zz0 k)→tU5 ((((decide ((k:Int) < yy2))=true→tU3 ((zz4 k)∧True∧(((ims s.ims)[(k:Int).toNat*28+2]?=some (dQ (bAt (ims s.ims) yy3)))∧True)∧tU3 ((zz5 k)∧True∧(((ims t.ims)[(k:Int).toNat*28+2]?=some (dQ (bAt (ims t.ims) yy3)))∧True)∧tU2 ((((!((bAt (ims s.ims) yy3)==(bAt (ims t.ims) yy3)))=false→tU3 ((zz4 k)∧((imQr (ims s.ims) yy4))∧tU3 ((zz5 k)∧((imQr (ims t.ims) yy4))∧(Ans Tryz.prog 42 [imR (imQ (ims s.ims) yy4),imR (imQ (ims t.ims) yy4)] (RV.d (dQ yy1)))∧tU2 ((true=true)∧(((!yy1)=true→True∧RV.d (dQ false)=RV.d yy0)∧((!yy1)=false→tU3 (∃ k':Nat,(k'≤s.ims.length∧eqTo s.ims t.ims k'=true)∧(s.ims.length - k' < s.ims.length - k)∧(((0=0)∧(0=0)∧(dJ (wK ((k:Int)+(1:Int)))=dJ (k':Int))∧True)∧zz3))))))))∧((!((bAt (ims s.ims) yy3)==(bAt (ims t.ims) yy3)))=(!false)→True∧(true=true)∧True∧RV.d (dQ false)=RV.d yy0))))))∧((decide ((k:Int) < yy2))=false→True∧RV.d (dQ true)=RV.d yy0)))))))))∧((yy2 != (t.ims.length:Int))=(!false)→tU2 (RV.d (dQ false)=RV.d yy0)))))∧((!(decide (ints ((is s.ord))=ints ((is t.ord)))))=(!false)→tU4 (RV.d (dQ false)=RV.d yy0))))))∧((s.th != t.th)=(!false)→tU6 (RV.d (dQ false)=RV.d yy0)))))∧((s.tw != t.tw)=(!false)→tU8 (RV.d (dQ false)=RV.d yy0)))))∧((!((s.c.a==t.c.a) && ((s.c.b==t.c.b) && ((s.c.c==t.c.c) && ((s.c.d==t.c.d) && true)))))=(!false)→tU2 (tU8 (RV.d (dQ false)=RV.d yy0))))))∧((s.bits != t.bits)=(!false)→tU4 (tU8 (RV.d (dQ false)=RV.d yy0)))))):=by kernel_rfl
theorem jZf (s t:Scr) (hM:∀ m∈s.ims,m.isU) (hN:∀ m∈t.ims,m.isU):Ans Tryz.prog 16 [RV.agg [DV.int .i64 s.bits,DV.int .i64 s.c.a,DV.int .i64 s.c.b,DV.int .i64 s.c.c,DV.int .i64 s.c.d,DV.int .i64 s.tw,DV.int .i64 s.th,DV.sl s.ord.length (is s.ord),DV.sl s.ims.length (ims s.ims),DV.sl s.ops.length (ops s.ops)],RV.agg [DV.int .i64 t.bits,DV.int .i64 t.c.a,DV.int .i64 t.c.b,DV.int .i64 t.c.c,DV.int .i64 t.c.d,DV.int .i64 t.tw,DV.int .i64 t.th,DV.sl t.ord.length (is t.ord),DV.sl t.ims.length (ims t.ims),DV.sl t.ops.length (ops t.ops)]] (RV.d (DV.bool (eqS s (⟨t.bits,⟨t.c.a,t.c.b,t.c.c,t.c.d⟩,t.tw,t.th,ints (is t.ord),zZ6 (ims t.ims),zZb (ops t.ops)⟩:Scr)))):=
 zQo (Γ:=jWb) (zWI s t) zQC Tryz.func16 rfl (Nat.le_of_ble_eq_true rfl) fun hwf=>by
  refine Eq.mpr (jXs s t) ?_
  delta tU2 tU3 tU4 tU5 tU6 tU7 tU8 dJ dQ wK dS
  simp only [true_and,and_true,RV.d.injEq,RV.agg.injEq,RV.tup.injEq,DV.bool.injEq,DV.int.injEq,DV.sl.injEq,List.cons.injEq,forall_const,Bool.not_false,Bool.not_true,Bool.not_eq_true',Bool.not_eq_false',decide_eq_true_eq,decide_eq_false_iff_not,Int.toNat_natCast,imQ,imQr]
  have a1:=zUX s.ord.length (is s.ord) t.ord.length (is t.ord) (jWN rfl) (jWN rfl)
  have a3:=zHj s.ops t.ops
  have hil:s.ims.length≤9223372036854775807:=by
   simp only [RV.wfs,RV.wf,DV.wf,DV.wfs,maxLen] at hwf
   omega
  have eS:(⟨t.bits,t.c,t.tw,t.th,t.ord,t.ims,t.ops⟩:Scr)=t:=rfl
  clear hwf
  simp only [zQZ,zZP,zZu,eS] at a1 a3 ⊢
  have E:=jUL s t
  refine ⟨fun h1=>⟨fun h2=>⟨fun h3=>⟨fun h4=>⟨a1,fun h5=>⟨fun h6=>⟨a3,fun h7=>?_,fun h7=>⟨⟨0,⟨Nat.zero_le _,by simp [eqTo]⟩,rfl⟩,fun k hk=>⟨fun hlt=>?_,fun hge=>?_⟩⟩⟩,fun h6=>?_⟩,fun h5=>?_⟩,fun h4=>?_⟩,fun h3=>?_⟩,fun h2=>?_⟩,fun h1=>?_⟩
  ·rw [E,decide_eq_false h7]; simp
  ·obtain ⟨k1,k2⟩:=hk
   have hl:s.ims.length=t.ims.length:=by simp at h6; omega
   have ha:k < s.ims.length:=by omega
   have hb:k < t.ims.length:=by omega
   have q1:=jZ4 ha
   have q2:=jZ5 ha
   have r1:=jZ4 hb
   have r2:=jZ5 hb
   have q3:bAt (ims s.ims) (k*28+2)=s.ims[k].so:=q2.2.2.1
   have r3:bAt (ims t.ims) (k*28+2)=t.ims[k].so:=r2.2.2.1
   have q4:(ims s.ims)[k*28+2]?=some (DV.bool s.ims[k].so):=q1.2.2.1
   have r4:(ims t.ims)[k*28+2]?=some (DV.bool t.ims[k].so):=r1.2.2.1
   have w1:IntKind.wrap .i64 ((k:Int)+1)=((k+1:Nat):Int):=by rw [IntWalk.i64_in _ ⟨by omega,by omega⟩]; omega
   have e1:=zWO s.ims[k] t.ims[k] (hM _ (List.getElem_mem ha)) (hN _ (List.getElem_mem hb))
   have bad:eqI s.ims[k] t.ims[k]=false→false=eqS s t:=fun h=>by
    have:zG8 s.ims t.ims=false:=by unfold zG8; rw [jWh ha hb h,Bool.and_false]
    rw [E,this]; simp
   simp only [q2,r2,q3,r3,w1]
   have B1:(0:Int)≤(k:Int)∧(k:Int) < (s.ims.length:Int)∧k*28 < (ims s.ims).length:=⟨by omega,by omega,by rw [zXq]; omega⟩
   have B2:(0:Int)≤(k:Int)∧(k:Int) < (t.ims.length:Int)∧k*28 < (ims t.ims).length:=⟨by omega,by omega,by rw [zXq]; omega⟩
   refine ⟨B1,q4,B2,r4,fun h8=>⟨B1,q1,B2,r1,e1,fun h9=>bad ?_,fun h9=>⟨k+1,⟨by omega,jVb ha hb k2 ?_⟩,by omega,rfl⟩⟩,fun h8=>bad ?_⟩
   ·have h9:s.ims[k].equal t.ims[k]=false:=h9
    unfold eqI; rw [h9,Bool.and_false]
   ·have h9:s.ims[k].equal t.ims[k]=true:=h9
    unfold eqI; rw [h9,h8]; rfl
   ·unfold eqI; rw [h8,Bool.false_and]
  ·obtain ⟨k1,k2⟩:=hk
   have hl:s.ims.length=t.ims.length:=by simp at h6; omega
   have:k=s.ims.length:=by omega
   subst this
   have h8:zG8 s.ims t.ims=true:=by unfold zG8; rw [k2,decide_eq_true hl]; rfl
   have h1:(s.bits==t.bits)=true:=by simpa using h1
   have h3:(s.tw==t.tw)=true:=by simpa using h3
   have h4:(s.th==t.th)=true:=by simpa using h4
   rw [E,h1,h2,h3,h4,h8,decide_eq_true h5,decide_eq_true h7]; rfl
  ·have hl:s.ims.length≠t.ims.length:=by simp at h6; omega
   have:zG8 s.ims t.ims=false:=by unfold zG8; rw [decide_eq_false hl]; rfl
   rw [E,this]; simp
  ·rw [E,decide_eq_false h5]; simp
  ·have h4:(s.th==t.th)=false:=by simpa using h4
   rw [E,h4]; simp
  ·have h3:(s.tw==t.tw)=false:=by simpa using h3
   rw [E,h3]; simp
  ·rw [E,h2]; simp
  ·have h1:(s.bits==t.bits)=false:=by simpa using h1
   rw [E,h1]; simp
end Go.Proofs.YtheidkkebdhmkaaGreatDoor
namespace Go.Proofs.YtheidkkebdhmkaaGreatDoor
open Go.RowKit
set_option linter.unusedVariables false
set_option linter.unusedSimpArgs false
section
variable {α:Type} {f:α→List DV} {m:Nat}
end
def pxIn (p:Px):Prop:=(0≤p.a∧p.a≤65535)∧(0≤p.b∧p.b≤65535)∧(0≤p.c∧p.c≤65535)∧(0≤p.al∧p.al≤65535)∧(0≤p.f∧p.f≤65535)
def imIn (m:Im):Prop:=m.formed=true∧pxIn m.c∧∀ p∈m.pixels,pxIn p
def Im.nrm (m:Im):Im:=if m.so then zQd m.w m.h m.c else imOf m.w m.h m.pixels
theorem jUp {m:Im} (hf:m.formed=true):eqI m m.nrm=true:=by
 unfold eqI Im.nrm
 by_cases hs:m.so=true
 ·rw [if_pos hs]
  have hfit:=(Im.formed_of hf).1
  have:m.equal (zQd m.w m.h m.c)=true:=by
   refine Im.equal_px hf (zZR _ hfit) rfl rfl fun x y _ _=>?_
   simp [Im.px,zQd,hs]
  rw [this,hs]
  rfl
 ·have hs:m.so=false:=by simpa using hs
  have e:=zJE (Im.pixels_ok hf)
  rw [hs]
  simp only [Bool.false_eq_true,if_false]
  rw [jYn hf,e]
  rfl
def Scr.norm (s:Scr):Scr:=⟨s.bits,s.c,s.tw,s.th,s.ord,s.ims.map Im.nrm,s.ops⟩
theorem jUf {p:Px} {most:Int} (h:p.fine most) (hm:most≤65535):pxIn p:=by
 obtain ⟨h1,h2,h3,h4,h5⟩:=h
 simp [Px.ok] at h1
 exact ⟨by omega,by omega,by omega,by omega,by omega⟩
theorem jKW {m:Im} (hf:m.formed=true) (hp:∀ p∈m.pixels,pxIn p):imIn m:=by
 refine ⟨hf,?_,hp⟩
 by_cases hs:m.so=true
 ·have:=Im.count_pos hf
  refine hp _ ?_
  rw [Im.pixels_so hf hs]
  exact List.mem_replicate.2 ⟨by omega,rfl⟩
 ·rw [(Im.inner_planes (Im.formed_of hf).2 (by simpa using hs)).1]
  exact ⟨⟨by decide,by decide⟩,⟨by decide,by decide⟩,⟨by decide,by decide⟩,⟨by decide,by decide⟩,⟨by decide,by decide⟩⟩
theorem Scn.ims_in (s:Scn):∀ m∈s.ims,imIn m:=by
 have hq:1≤s.c.c - s.c.a∧s.c.c - s.c.a≤100∧1≤s.c.d - s.c.b∧s.c.d - s.c.b≤100:=by have:=s.facts; have CF:=s.c_facts; omega
 have hm:0≤s.most∧s.most≤65535:=by rcases s.most_in with h | h <;> rw [h] <;> omega
 intro m hmem
 refine jKW (s.fine m hmem).1 fun p hp=>jUf (most:=s.most) ?_ hm.2
 unfold Scn.ims at hmem
 split at hmem
 ·rw [List.mem_singleton] at hmem
  subst hmem
  have F:=s.facts
  have hf:zQQ s.gw s.gh=true:=by
   have:=Int.mul_le_mul F.2.2.1.2 F.2.2.2.1.2 (by omega) (by omega)
   simp [zQQ]; omega
  change p∈(zQd s.gw s.gh ⟨s.most,0,0,s.most,s.most⟩).pixels at hp
  rw [Im.pixels_of (zZR _ hf),Im.list,List.mem_map] at hp
  obtain ⟨k,_,rfl⟩:=hp
  have e:(zQd s.gw s.gh ⟨s.most,0,0,s.most,s.most⟩).nth k=⟨s.most,0,0,s.most,s.most⟩:=by simp [Im.nth,Im.px,zQd]
  change ((zQd s.gw s.gh ⟨s.most,0,0,s.most,s.most⟩).nth k).fine s.most
  rw [e]
  exact ⟨by simp [Px.ok]; omega,by simp only; omega,by simp only; omega,by simp only; omega,by simp only; omega⟩
 ·simp only [Scn.pics,List.mem_map] at hmem
  obtain ⟨k,_,rfl⟩:=hmem
  exact zG3 _ _ _ _ _ _ _ _ _ _ hm.1 hm.2 hq p hp
theorem jWd (r:Rw) (push:Bool) (n:Int) (c:Rc) (free:Bool) {most:Int} (h0:0≤most) (h1:most≤65535):0≤(gOp r push n c free most).opac∧(gOp r push n c free most).opac≤65535:=by
 unfold gOp
 simp only
 split
 ·have:=zXP (IntKind.wrap .i64 (Int.tdiv r.op 2)) h0 h1
  omega
 ·omega
theorem Scn.run_opac (s:Scn):∀ k,∀ o∈(s.run k).1,0≤o.opac∧o.opac≤65535
 | 0,o,ho=>by cases ho
 | k+1,o,ho=>by
  have hm:0≤s.most∧s.most≤65535:=by rcases s.most_in with h | h <;> rw [h] <;> omega
  have ih:=s.run_opac k
  have ho:o∈(s.step (rwAt s.rxs (k*11)) (s.run k)).1:=ho
  unfold Scn.step at ho
  split at ho
  ·rcases List.mem_append.1 ho with h | h
   ·exact ih o h
   ·rw [List.mem_singleton] at h
    subst h
    exact ⟨by decide,by decide⟩
  ·rcases List.mem_append.1 ho with h | h
   ·exact ih o h
   ·rw [List.mem_singleton] at h
    subst h
    exact jWd _ _ _ _ _ hm.1 hm.2
theorem Scn.ops_opac (s:Scn):∀ o∈s.ops,0≤o.opac∧o.opac≤65535:=fun o ho=>by
 rcases List.mem_append.1 (show o∈(s.run (min s.rn 9)).1++List.replicate (s.run (min s.rn 9)).2.length popO from ho) with h | h
 ·exact s.run_opac _ o h
 ·rw [List.eq_of_mem_replicate h]
  exact ⟨by decide,by decide⟩
def Scn.scr (s:Scn):Scr:=⟨s.bits,s.c,s.gtw,s.gth,s.ord,s.ims,s.ops⟩
theorem jVY {s:Scr}:∀ m∈s.norm.ims,m.isU:=fun m hm=>by
 obtain ⟨m',_,rfl⟩:=List.mem_map.1 (show m∈s.ims.map Im.nrm from hm)
 unfold Im.nrm
 split
 ·exact zYx _ _ _
 ·exact jQ0 _ _ _
theorem jVd {α:Type} {f g:α→Im} {l:List α} (h:∀ a∈l,eqI (f a) (g a)=true):zG8 (l.map f) (l.map g)=true:=by
 unfold zG8 eqTo
 rw [decide_eq_true (by simp),Bool.true_and,List.all_eq_true]
 intro i hi
 have hi:i < (l.map f).length:=List.mem_range.1 hi
 have hl:i < l.length:=by simpa using hi
 rw [jQd hi,jQd (by simpa using hl),List.getElem_map,List.getElem_map]
 exact h _ (List.getElem_mem hl)
end Go.Proofs.YtheidkkebdhmkaaGreatDoor
namespace Go.Proofs.YtheidkkebdhmkaaGreatDoor
open Go.RowKit
set_option linter.unusedVariables false
set_option linter.unusedSimpArgs false
attribute [local irreducible] Ans AnsO AnsG AnsN AnsI
set_option maxHeartbeats 4000000
set_option maxRecDepth 4000
open Go.Lib
def fmtA (s:Scr) (k:Nat):Lb:=hdTx s++orTx s++(s.ims.take k).flatMap imTx
def fmtC (s:Scr) (j:Nat):Lb:=fmtA s s.ims.length++(s.ops.take j).flatMap opLn
theorem jJf (s:Scr):fmtC s s.ops.length=fmtT s:=by
 unfold fmtC fmtA fmtT
 rw [List.take_length,List.take_length]
theorem jK3 {s:Scr} {k:Nat} (h:k < s.ims.length):fmtA s (k+1)=fmtA s k++imTx s.ims[k]:=by
 unfold fmtA
 rw [List.take_succ_eq_append_getElem h,List.flatMap_append]
 simp only [List.append_assoc,List.flatMap_cons,List.flatMap_nil,List.append_nil]
theorem jK2 {s:Scr} {j:Nat} (h:j < s.ops.length):fmtC s (j+1)=fmtC s j++opLn s.ops[j]:=by
 unfold fmtC
 rw [List.take_succ_eq_append_getElem h,List.flatMap_append]
 simp only [List.append_assoc,List.flatMap_cons,List.flatMap_nil,List.append_nil]
theorem zUj {α:Type} {f:α→Lb} {B:Nat} {l:List α} (h:∀ a∈l,(f a).length≤B):(l.flatMap f).length≤l.length*B:=by
 induction l with
 | nil=>simp
 | cons a l ih=>
  have h1:=h a (by simp)
  have h2:=ih fun b hb=>h b (by simp [hb])
  rw [List.flatMap_cons,List.length_append,List.length_cons,Nat.add_mul]
  omega
theorem zXz {w:Lb} {l:List Int} {n:Nat} (h:∀ x∈l,-9223372036854775808≤x∧x≤9223372036854775807) (hn:l.length=n):(zQ3 w l).length≤w.length+22*n:=by
 rw [← hn]; exact jKO h
theorem jYG {p:Px} (h:pxIn p):(pxTx p).length≤111:=by
 obtain ⟨h1,h2,h3,h4,h5⟩:=h
 have:(zQ3 [] (smpP p)).length≤([]:Lb).length+22*5:=zXz (fun x hx=>by
  simp only [smpP,List.mem_cons,List.not_mem_nil,or_false] at hx
  omega) rfl
 unfold pxTx
 rw [List.length_append]
 simp only [List.length_nil,List.length_cons] at this ⊢
 omega
theorem jYS {o:Oq} (h:opOk o=true) (hc:0≤o.opac∧o.opac≤65535):(opTx o).length≤300:=by
 unfold opOk at h
 simp [fitL] at h
 have l1:=jJI o.oper
 have l2:=jZW o.mode
 have b1:=jVm o.iso
 have b2:=jVm o.kno
 have lt:(zVt o).length≤42:=by
  unfold zVt
  simp only [List.length_append,List.length_cons,List.length_nil]; omega
 have lD:(zQ3 zZ9 [o.image,o.x,o.y,o.mask,o.mx,o.my,o.opac]).length≤4+22*7:=zXz (fun n hn=>by
  simp only [List.mem_cons,List.not_mem_nil,or_false] at hn
  omega) rfl
 have lP:(zQ3 zXi [o.mask,o.mx,o.my,o.opac]).length≤4+22*4:=zXz (fun n hn=>by
  simp only [List.mem_cons,List.not_mem_nil,or_false] at hn
  omega) rfl
 have lT:(zQ3 (zVt o) [bitN o.iso,bitN o.kno]).length≤(zVt o).length+22*2:=zXz (fun n hn=>by
  simp only [List.mem_cons,List.not_mem_nil,or_false] at hn
  omega) rfl
 unfold opTx
 split
 ·rw [List.length_append]; omega
 ·split
  ·rw [List.length_append]; omega
  ·decide
structure Prt (s:Scr):Prop where
  bits:0≤s.bits∧s.bits≤255
  c:(-2147483648≤s.c.a∧s.c.a≤2147483647)∧(-2147483648≤s.c.b∧s.c.b≤2147483647)∧(-2147483648≤s.c.c∧s.c.c≤2147483647)∧(-2147483648≤s.c.d∧s.c.d≤2147483647)
  t:(0≤s.tw∧s.tw≤4294967295)∧(0≤s.th∧s.th≤4294967295)
  o:∀ x∈s.ord,0≤x∧x≤4294967295
  ol:s.ord.length≤16777216
  il:s.ims.length≤64
  pl:s.ops.length≤4096
  fm:∀ m∈s.ims,m.formed=true
  op:∀ o∈s.ops,opOk o=true∧prtO o=true
theorem jKw {s:Scr} (h:zUc s=true):Prt s:=by
 unfold zUc at h
 simp only [zXc,zVW,Bool.and_eq_true,decide_eq_true_eq] at h
 obtain ⟨⟨⟨⟨⟨⟨⟨⟨⟨h1,h2⟩,h3⟩,h4⟩,h5⟩,h6⟩,h7⟩,h8⟩,h9⟩,h10⟩:=h
 have z:=zHM h7
 simp [fitL] at h1 h2 h3
 simp only [fitL,List.all_eq_true,decide_eq_true_eq] at h4
 simp only [List.all_eq_true] at h7 h8 h10
 unfold zXL at h9
 exact ⟨h1,h2,h3,h4,by omega,h5,h6,h7,fun o ho=>⟨h8 o ho,h10 o ho⟩⟩
theorem Im.wh {m:Im} (h:m.formed=true):(1≤m.w∧m.w≤16777216)∧(1≤m.h∧m.h≤16777216):=by
 have h1:=(Im.formed_of h).1
 have h2:=sizeIm_le' h
 simp [zQQ] at h1
 have h3:=Int.mul_le_mul_of_nonneg_left (by omega:1≤m.h) (by omega:0≤m.w)
 have h4:=Int.mul_le_mul_of_nonneg_right (by omega:1≤m.w) (by omega:0≤m.h)
 omega
theorem jV4 {m:Im} (h:imIn m):(imTx m).length≤1862271376:=by
 have hw:=Im.wh h.1
 have hpx:=Im.pixels_len h.1
 have hle:=sizeIm_le' h.1
 have l1:(zQ3 zQ9 [m.w,m.h]).length≤5+22*2:=zXz (fun n hn=>by
  simp only [List.mem_cons,List.not_mem_nil,or_false] at hn
  omega) rfl
 have l3:(zQ3 zQ5 [m.w,m.h]).length≤5+22*2:=zXz (fun n hn=>by
  simp only [List.mem_cons,List.not_mem_nil,or_false] at hn
  omega) rfl
 have hc:=h.2.1
 obtain ⟨c1,c2,c3,c4,c5⟩:=hc
 have l2:(zQ3 (zQ3 zQ9 [m.w,m.h]) (smpP m.c)).length≤(zQ3 zQ9 [m.w,m.h]).length+22*5:=zXz (fun x hx=>by
  simp only [smpP,List.mem_cons,List.not_mem_nil,or_false] at hx
  omega) rfl
 have l4:=zUj (f:=pxTx) (B:=111) (l:=m.pixels) fun p hp=>jYG (h.2.2 p hp)
 unfold imTx
 split
 ·simp only [List.length_append,List.length_cons,List.length_nil]; omega
 ·simp only [List.length_append,List.length_cons,List.length_nil]; omega
theorem jQ2 {s:Scr} (P:Prt s):(zQ3 zYG [s.bits]).length≤4+22*1∧(zQ3 zZL [s.c.a,s.c.b,s.c.c,s.c.d]).length≤6+22*4∧(zQ3 zXo [s.tw,s.th]).length≤5+22*2∧(zQ3 zZD s.ord).length≤5+22*s.ord.length:=by
 obtain ⟨p1,p2,p3,p4,p5,p6,p7,p8,p9⟩:=P
 refine ⟨zXz (fun n hn=>?_) rfl,zXz (fun n hn=>?_) rfl,zXz (fun n hn=>?_) rfl,zXz (fun n hn=>?_) rfl⟩
 ·simp only [List.mem_cons,List.not_mem_nil,or_false] at hn; omega
 ·simp only [List.mem_cons,List.not_mem_nil,or_false] at hn; omega
 ·simp only [List.mem_cons,List.not_mem_nil,or_false] at hn; omega
 ·have:=p4 n hn; omega
theorem jJg {s:Scr} (P:Prt s) (hI:∀ m∈s.ims,imIn m) (k:Nat):(fmtA s k).length≤130000000000:=by
 have h:=jQ2 P
 obtain ⟨p1,p2,p3,p4,p5,p6,p7,p8,p9⟩:=P
 have h1:=zUj (f:=imTx) (B:=1862271376) (l:=s.ims.take k) fun m hm=>jV4 (hI m (List.mem_of_mem_take hm))
 have h2:(s.ims.take k).length≤64:=by rw [List.length_take]; omega
 have h3:(orTx s).length≤5+22*s.ord.length+1:=by
  unfold orTx
  split
  ·simp only [List.length_append,List.length_cons,List.length_nil]; omega
  ·simp
 unfold fmtA hdTx
 simp only [List.length_append,List.length_cons,List.length_nil]
 omega
theorem jWf {s:Scr} (P:Prt s) (hI:∀ m∈s.ims,imIn m) (hq:∀ o∈s.ops,0≤o.opac∧o.opac≤65535) (j:Nat):(fmtC s j).length≤140000000000:=by
 have h:=jJg P hI s.ims.length
 obtain ⟨p1,p2,p3,p4,p5,p6,p7,p8,p9⟩:=P
 have h1:=zUj (f:=opLn) (B:=301) (l:=s.ops.take j) fun o ho=>by
  have hm:=List.mem_of_mem_take ho
  have:=jYS (p9 o hm).1 (hq o hm)
  unfold opLn
  simp only [List.length_append,List.length_cons,List.length_nil]
  omega
 have h2:(s.ops.take j).length≤4096:=by rw [List.length_take]; omega
 unfold fmtC
 rw [List.length_append]
 omega
end Go.Proofs.YtheidkkebdhmkaaGreatDoor
namespace Go.Proofs.YtheidkkebdhmkaaGreatDoor
open Go.RowKit
set_option linter.unusedVariables false
set_option linter.unusedSimpArgs false
attribute [local irreducible] Ans AnsO AnsG AnsN AnsI
set_option maxHeartbeats 4000000
set_option maxRecDepth 4000
open Go.Lib
def jJd:Gam where
 pure:=fun f xs=>
  if f=96 then (match xs with | [.d (.int _ op)]=>some (RV.d (dQ (decide (1≤op∧op < 13)))) | _=>none) else
  none
 modes:=fun f=>
  none
 proc:=fun f xs bs=>
  none
 iter:=fun f cs=>
  none
def zYS (w:Lb):Ann:=(Ann.seq Ann.leaf (Ann.seq (Ann.seq Ann.leaf (Ann.loop ⟨Nat,fun k=>k≤13∧∀ j:Nat,1≤j→j < k→ofS (zQj (j:Int))≠w,fun k=>⟨[(0,AV.one (Cl.d (DV.str (toS w)))),(6,AV.agg [Cl.d (DV.str (sAt zQa 0)),cJ ((nAt zQa 1)),cJ ((nAt zQa 2)),cJ ((nAt zQa 3)),Cl.d (DV.str (sAt zQa 4)),cJ ((nAt zQa 5)),cJ ((nAt zQa 6)),cJ ((nAt zQa 7)),Cl.d (DV.str (sAt zQa 8)),cJ ((nAt zQa 9)),cJ ((nAt zQa 10)),cJ ((nAt zQa 11)),Cl.d (DV.str (sAt zQa 12)),cJ ((nAt zQa 13)),cJ ((nAt zQa 14)),cJ ((nAt zQa 15)),Cl.d (DV.str (sAt zQa 16)),cJ ((nAt zQa 17)),cJ ((nAt zQa 18)),cJ ((nAt zQa 19)),Cl.d (DV.str (sAt zQa 20)),cJ ((nAt zQa 21)),cJ ((nAt zQa 22)),cJ ((nAt zQa 23)),Cl.d (DV.str (sAt zQa 24)),cJ ((nAt zQa 25)),cJ ((nAt zQa 26)),cJ ((nAt zQa 27)),Cl.d (DV.str (sAt zQa 28)),cJ ((nAt zQa 29)),cJ ((nAt zQa 30)),cJ ((nAt zQa 31)),Cl.d (DV.str (sAt zQa 32)),cJ ((nAt zQa 33)),cJ ((nAt zQa 34)),cJ ((nAt zQa 35)),Cl.d (DV.str (sAt zQa 36)),cJ ((nAt zQa 37)),cJ ((nAt zQa 38)),cJ ((nAt zQa 39)),Cl.d (DV.str (sAt zQa 40)),cJ ((nAt zQa 41)),cJ ((nAt zQa 42)),cJ ((nAt zQa 43)),Cl.d (DV.str (sAt zQa 44)),cJ ((nAt zQa 45)),cJ ((nAt zQa 46)),cJ ((nAt zQa 47)),Cl.d (DV.str (sAt zQa 48)),cJ ((nAt zQa 49)),cJ ((nAt zQa 50)),cJ ((nAt zQa 51))]),(7,aJ (((k:Int))))],[]⟩,fun k=>13 - k⟩ fun k=>Ann.leaf)) Ann.leaf))
theorem zUe (w:Lb):vcg Tryz.prog jJd 21 (zQA Tryz.f157) (zYS w) kn0 (zQ0 [RV.d (DV.str (toS w))]) (post Tryz.prog Tryz.f157.results.toList (·=RV.tup [rJ (((nmR zQj (ofS (toS w))).1)),RV.d (dQ ((nmR zQj (ofS (toS w))).2))])) =
 (let zz0:=(DV.str (toS w)=DV.str (toS w)); let zz1:=[DV.str (sAt zQa 0),dJ (nAt zQa 1),dJ (nAt zQa 2),dJ (nAt zQa 3),DV.str (sAt zQa 4),dJ (nAt zQa 5),dJ (nAt zQa 6),dJ (nAt zQa 7),DV.str (sAt zQa 8),dJ (nAt zQa 9),dJ (nAt zQa 10),dJ (nAt zQa 11),DV.str (sAt zQa 12),dJ (nAt zQa 13),dJ (nAt zQa 14),dJ (nAt zQa 15),DV.str (sAt zQa 16),dJ (nAt zQa 17),dJ (nAt zQa 18),dJ (nAt zQa 19),DV.str (sAt zQa 20),dJ (nAt zQa 21),dJ (nAt zQa 22),dJ (nAt zQa 23),DV.str (sAt zQa 24),dJ (nAt zQa 25),dJ (nAt zQa 26),dJ (nAt zQa 27),DV.str (sAt zQa 28),dJ (nAt zQa 29),dJ (nAt zQa 30),dJ (nAt zQa 31),DV.str (sAt zQa 32),dJ (nAt zQa 33),dJ (nAt zQa 34),dJ (nAt zQa 35),DV.str (sAt zQa 36),dJ (nAt zQa 37),dJ (nAt zQa 38),dJ (nAt zQa 39),DV.str (sAt zQa 40),dJ (nAt zQa 41),dJ (nAt zQa 42),dJ (nAt zQa 43),DV.str (sAt zQa 44),dJ (nAt zQa 45),dJ (nAt zQa 46),dJ (nAt zQa 47),DV.str (sAt zQa 48),dJ (nAt zQa 49),dJ (nAt zQa 50),dJ (nAt zQa 51)]; let zz2:=(zz1=zz1); let zz3:=[rJ (((nmR zQj (ofS (toS w))).1)),RV.d (dQ ((nmR zQj (ofS (toS w))).2))]; let zz4:=fun (k:Nat)=>fun (k':Nat)=>((zz0∧zz2∧(dJ (wK ((k:Int)+(1:Int)))=dJ (k':Int))∧True)∧(True)); tU2 (((zQa[0]?=some (DV.str (sAt zQa 0)))∧(zQa[1]?=some (dJ (nAt zQa 1)))∧(zQa[2]?=some (dJ (nAt zQa 2)))∧(zQa[3]?=some (dJ (nAt zQa 3)))∧(zQa[4]?=some (DV.str (sAt zQa 4)))∧(zQa[5]?=some (dJ (nAt zQa 5)))∧(zQa[6]?=some (dJ (nAt zQa 6)))∧(zQa[7]?=some (dJ (nAt zQa 7)))∧(zQa[8]?=some (DV.str (sAt zQa 8)))∧(zQa[9]?=some (dJ (nAt zQa 9)))∧(zQa[10]?=some (dJ (nAt zQa 10)))∧(zQa[11]?=some (dJ (nAt zQa 11)))∧(zQa[12]?=some (DV.str (sAt zQa 12)))∧(zQa[13]?=some (dJ (nAt zQa 13)))∧(zQa[14]?=some (dJ (nAt zQa 14)))∧(zQa[15]?=some (dJ (nAt zQa 15)))∧(zQa[16]?=some (DV.str (sAt zQa 16)))∧(zQa[17]?=some (dJ (nAt zQa 17)))∧(zQa[18]?=some (dJ (nAt zQa 18)))∧(zQa[19]?=some (dJ (nAt zQa 19)))∧(zQa[20]?=some (DV.str (sAt zQa 20)))∧(zQa[21]?=some (dJ (nAt zQa 21)))∧(zQa[22]?=some (dJ (nAt zQa 22)))∧(zQa[23]?=some (dJ (nAt zQa 23)))∧(zQa[24]?=some (DV.str (sAt zQa 24)))∧(zQa[25]?=some (dJ (nAt zQa 25)))∧(zQa[26]?=some (dJ (nAt zQa 26)))∧(zQa[27]?=some (dJ (nAt zQa 27)))∧(zQa[28]?=some (DV.str (sAt zQa 28)))∧(zQa[29]?=some (dJ (nAt zQa 29)))∧(zQa[30]?=some (dJ (nAt zQa 30)))∧(zQa[31]?=some (dJ (nAt zQa 31)))∧(zQa[32]?=some (DV.str (sAt zQa 32)))∧(zQa[33]?=some (dJ (nAt zQa 33)))∧(zQa[34]?=some (dJ (nAt zQa 34)))∧(zQa[35]?=some (dJ (nAt zQa 35)))∧(zQa[36]?=some (DV.str (sAt zQa 36)))∧(zQa[37]?=some (dJ (nAt zQa 37)))∧(zQa[38]?=some (dJ (nAt zQa 38)))∧(zQa[39]?=some (dJ (nAt zQa 39)))∧(zQa[40]?=some (DV.str (sAt zQa 40)))∧(zQa[41]?=some (dJ (nAt zQa 41)))∧(zQa[42]?=some (dJ (nAt zQa 42)))∧(zQa[43]?=some (dJ (nAt zQa 43)))∧(zQa[44]?=some (DV.str (sAt zQa 44)))∧(zQa[45]?=some (dJ (nAt zQa 45)))∧(zQa[46]?=some (dJ (nAt zQa 46)))∧(zQa[47]?=some (dJ (nAt zQa 47)))∧(zQa[48]?=some (DV.str (sAt zQa 48)))∧(zQa[49]?=some (dJ (nAt zQa 49)))∧(zQa[50]?=some (dJ (nAt zQa 50)))∧(zQa[51]?=some (dJ (nAt zQa 51)))∧True)∧True∧((∃ k:Nat,(k≤13∧∀ j:Nat,1≤j→j < k→ofS (zQj (j:Int))≠w)∧((zz0∧zz2∧(dJ 0=dJ (k:Int))∧True)∧(True)))∧∀ k:Nat,(k≤13∧∀ j:Nat,1≤j→j < k→ofS (zQj (j:Int))≠w)→True∧(((decide ((k:Int) < (13:Int)))=true→True∧(0≤(k:Int)∧(k:Int) < ((13:Nat):Int)∧((zz1)[(k:Int).toNat*4]?=some (DV.str (sAt (zz1) ((k:Int).toNat*4))))∧((zz1)[(k:Int).toNat*4+1]?=some (dJ (nAt (zz1) ((k:Int).toNat*4+1))))∧((zz1)[(k:Int).toNat*4+1+1]?=some (dJ (nAt (zz1) ((k:Int).toNat*4+1+1))))∧((zz1)[(k:Int).toNat*4+1+1+1]?=some (dJ (nAt (zz1) ((k:Int).toNat*4+1+1+1))))∧True)∧tU8 (((((sAt (zz1) ((k:Int).toNat*4)).toList==(toS w).toList)=true→tU3 ((((decide ((k:Int) > (0:Int)))=true→tU3 (RV.tup [rJ ((k:Int)),RV.d (dQ true)]=RV.tup zz3))∧((decide ((k:Int) > (0:Int)))=false→tU2 (∃ k':Nat,(k'≤13∧∀ j:Nat,1≤j→j < k'→ofS (zQj (j:Int))≠w)∧(13 - k' < 13 - k)∧(zz4 k k'))))))∧(((sAt (zz1) ((k:Int).toNat*4)).toList==(toS w).toList)=(!true)→tU3 (∃ k':Nat,(k'≤13∧∀ j:Nat,1≤j→j < k'→ofS (zQj (j:Int))≠w)∧(13 - k' < 13 - k)∧(zz4 k k'))))))∧((decide ((k:Int) < (13:Int)))=false→tU2 (RV.tup [rJ (0),RV.d (dQ false)]=RV.tup zz3)))))):=by kernel_rfl
theorem zWs (w:Lb):Ans Tryz.prog 157 [RV.d (DV.str (toS w))] (RV.tup [RV.d (DV.int .i64 ((nmR zQj (ofS (toS w))).1)),RV.d (DV.bool ((nmR zQj (ofS (toS w))).2))]):=
 zQo (Γ:=jJd) (zYS w) zQC Tryz.func157 rfl (Nat.le_of_ble_eq_true rfl) fun hwf=>by
  refine Eq.mpr (zUe w) ?_
  delta tU2 tU3 tU8 dJ dQ wK rJ
  simp only [true_and,and_true,RV.d.injEq,RV.agg.injEq,RV.tup.injEq,DV.bool.injEq,DV.int.injEq,DV.sl.injEq,List.cons.injEq,forall_const,Bool.not_false,Bool.not_true,Bool.not_eq_true',Bool.not_eq_false',decide_eq_true_eq,decide_eq_false_iff_not,Int.toNat_natCast]
  simp only [zZh]
  clear hwf
  have hg:[DV.str (sAt zQa 0),DV.int .i64 (nAt zQa 1),DV.int .i64 (nAt zQa 2),DV.int .i64 (nAt zQa 3),DV.str (sAt zQa 4),DV.int .i64 (nAt zQa 5),DV.int .i64 (nAt zQa 6),DV.int .i64 (nAt zQa 7),DV.str (sAt zQa 8),DV.int .i64 (nAt zQa 9),DV.int .i64 (nAt zQa 10),DV.int .i64 (nAt zQa 11),DV.str (sAt zQa 12),DV.int .i64 (nAt zQa 13),DV.int .i64 (nAt zQa 14),DV.int .i64 (nAt zQa 15),DV.str (sAt zQa 16),DV.int .i64 (nAt zQa 17),DV.int .i64 (nAt zQa 18),DV.int .i64 (nAt zQa 19),DV.str (sAt zQa 20),DV.int .i64 (nAt zQa 21),DV.int .i64 (nAt zQa 22),DV.int .i64 (nAt zQa 23),DV.str (sAt zQa 24),DV.int .i64 (nAt zQa 25),DV.int .i64 (nAt zQa 26),DV.int .i64 (nAt zQa 27),DV.str (sAt zQa 28),DV.int .i64 (nAt zQa 29),DV.int .i64 (nAt zQa 30),DV.int .i64 (nAt zQa 31),DV.str (sAt zQa 32),DV.int .i64 (nAt zQa 33),DV.int .i64 (nAt zQa 34),DV.int .i64 (nAt zQa 35),DV.str (sAt zQa 36),DV.int .i64 (nAt zQa 37),DV.int .i64 (nAt zQa 38),DV.int .i64 (nAt zQa 39),DV.str (sAt zQa 40),DV.int .i64 (nAt zQa 41),DV.int .i64 (nAt zQa 42),DV.int .i64 (nAt zQa 43),DV.str (sAt zQa 44),DV.int .i64 (nAt zQa 45),DV.int .i64 (nAt zQa 46),DV.int .i64 (nAt zQa 47),DV.str (sAt zQa 48),DV.int .i64 (nAt zQa 49),DV.int .i64 (nAt zQa 50),DV.int .i64 (nAt zQa 51)]=zQa:=rfl
  rw [hg]
  refine ⟨by (repeat' apply And.intro) <;> rfl,⟨0,⟨Nat.zero_le _,fun j h1 h2=>absurd h2 (Nat.not_lt_zero j)⟩,rfl⟩,fun k hk=>⟨fun hlt=>?_,fun hge=>?_⟩⟩
  ·have hk13:k < 13:=by omega
   have w1:IntKind.wrap .i64 ((k:Int)+1)=((k+1:Nat):Int):=by rw [IntWalk.i64_in _ ⟨by omega,by omega⟩]; omega
   have hrd:zQa[k*4]?=some (DV.str (sAt zQa (k*4)))∧zQa[k*4+1]?=some (DV.int .i64 (nAt zQa (k*4+1)))∧zQa[k*4+1+1]?=some (DV.int .i64 (nAt zQa (k*4+1+1)))∧zQa[k*4+1+1+1]?=some (DV.int .i64 (nAt zQa (k*4+1+1+1))):=by
    have:k=0∨k=1∨k=2∨k=3∨k=4∨k=5∨k=6∨k=7∨k=8∨k=9∨k=10∨k=11∨k=12:=by omega
    rcases this with rfl | rfl | rfl | rfl | rfl | rfl | rfl | rfl | rfl | rfl | rfl | rfl | rfl <;> exact ⟨rfl,rfl,rfl,rfl⟩
   have hnm:1≤k→sAt zQa (k*4)=zQj (k:Int):=fun h=>by unfold zQj; rw [if_pos ⟨by omega,by omega⟩,Int.toNat_natCast]; skip
   have next:(1≤k→ofS (zQj (k:Int))≠w)→∃ k',(k'≤13∧∀ j:Nat,1≤j→j < k'→ofS (zQj (j:Int))≠w)∧13 - k' < 13 - k∧IntKind.wrap .i64 ((k:Int)+1)=(k':Int):=fun h=>⟨k+1,⟨by omega,fun j h1 h2=>by
    rcases Nat.lt_or_ge j k with h3 | h3
    ·exact hk.2 j h1 h3
    ·have:j=k:=by omega
     subst this; exact h h1⟩,by omega,w1⟩
   have hit:1≤k→ofS (zQj (k:Int))=w→nmR zQj w=((k:Int),true):=fun h1 h2=>by
    obtain ⟨m,rfl⟩:∃ m,k=m+1:=⟨k - 1,by omega⟩
    have e:=jYY (f:=zQj) (w:=w) (k:=m) (by omega) (by simpa using h2) (fun j hj=>by simpa using hk.2 (j+1) (by omega) (by omega))
    rw [e]; simp
   simp only [jVp,decide_eq_true_eq,decide_eq_false_iff_not]
   refine ⟨⟨by omega,by omega,hrd⟩,fun h=>⟨fun h2=>?_,fun h2=>next fun h1=>absurd (by omega) h2⟩,fun h=>next fun h1=>by rw [← hnm h1]; exact h⟩
   rw [hnm (by omega)] at h
   rw [hit (by omega) h]
   exact ⟨rfl,rfl⟩
  ·rw [jYZ (f:=zQj) fun j hj=>by simpa using hk.2 (j+1) (by omega) (by omega)]
   exact ⟨rfl,rfl⟩
def zKK (w:Lb):Ann:=(Ann.seq Ann.leaf (Ann.seq (Ann.seq Ann.leaf (Ann.loop ⟨Nat,fun k=>k≤13∧∀ j:Nat,1≤j→j < k→ofS (zQc (j:Int))≠w,fun k=>⟨[(0,AV.one (Cl.d (DV.str (toS w)))),(6,AV.agg [Cl.d (DV.str (sAt zQk 0)),Cl.d (DV.str (sAt zQk 1)),Cl.d (DV.str (sAt zQk 2)),Cl.d (DV.str (sAt zQk 3)),Cl.d (DV.str (sAt zQk 4)),Cl.d (DV.str (sAt zQk 5)),Cl.d (DV.str (sAt zQk 6)),Cl.d (DV.str (sAt zQk 7)),Cl.d (DV.str (sAt zQk 8)),Cl.d (DV.str (sAt zQk 9)),Cl.d (DV.str (sAt zQk 10)),Cl.d (DV.str (sAt zQk 11)),Cl.d (DV.str (sAt zQk 12))]),(7,aJ (((k:Int))))],[]⟩,fun k=>13 - k⟩ fun k=>Ann.leaf)) Ann.leaf))
theorem zHG (w:Lb):vcg Tryz.prog jJd 20 (zQA Tryz.f158) (zKK w) kn0 (zQ0 [RV.d (DV.str (toS w))]) (post Tryz.prog Tryz.f158.results.toList (·=RV.tup [rJ (((nmR zQc (ofS (toS w))).1)),RV.d (dQ ((nmR zQc (ofS (toS w))).2))])) =
 (let zz0:=(DV.str (toS w)=DV.str (toS w)); let zz1:=[DV.str (sAt zQk 0),DV.str (sAt zQk 1),DV.str (sAt zQk 2),DV.str (sAt zQk 3),DV.str (sAt zQk 4),DV.str (sAt zQk 5),DV.str (sAt zQk 6),DV.str (sAt zQk 7),DV.str (sAt zQk 8),DV.str (sAt zQk 9),DV.str (sAt zQk 10),DV.str (sAt zQk 11),DV.str (sAt zQk 12)]; let zz2:=(zz1=zz1); let zz3:=[rJ (((nmR zQc (ofS (toS w))).1)),RV.d (dQ ((nmR zQc (ofS (toS w))).2))]; let zz4:=fun (k:Nat)=>fun (k':Nat)=>((zz0∧zz2∧(dJ (wK ((k:Int)+(1:Int)))=dJ (k':Int))∧True)∧(True)); tU2 (((zQk[0]?=some (DV.str (sAt zQk 0)))∧(zQk[1]?=some (DV.str (sAt zQk 1)))∧(zQk[2]?=some (DV.str (sAt zQk 2)))∧(zQk[3]?=some (DV.str (sAt zQk 3)))∧(zQk[4]?=some (DV.str (sAt zQk 4)))∧(zQk[5]?=some (DV.str (sAt zQk 5)))∧(zQk[6]?=some (DV.str (sAt zQk 6)))∧(zQk[7]?=some (DV.str (sAt zQk 7)))∧(zQk[8]?=some (DV.str (sAt zQk 8)))∧(zQk[9]?=some (DV.str (sAt zQk 9)))∧(zQk[10]?=some (DV.str (sAt zQk 10)))∧(zQk[11]?=some (DV.str (sAt zQk 11)))∧(zQk[12]?=some (DV.str (sAt zQk 12)))∧True)∧True∧((∃ k:Nat,(k≤13∧∀ j:Nat,1≤j→j < k→ofS (zQc (j:Int))≠w)∧((zz0∧zz2∧(dJ 0=dJ (k:Int))∧True)∧(True)))∧∀ k:Nat,(k≤13∧∀ j:Nat,1≤j→j < k→ofS (zQc (j:Int))≠w)→True∧(((decide ((k:Int) < (13:Int)))=true→True∧(0≤(k:Int)∧(k:Int) < ((13:Nat):Int)∧((zz1)[(k:Int).toNat*1]?=some (DV.str (sAt (zz1) ((k:Int).toNat*1))))∧True)∧tU6 (((((sAt (zz1) ((k:Int).toNat*1)).toList==(toS w).toList)=true→True∧(Ans Tryz.prog 96 [rJ ((k:Int))] (RV.d (dQ (decide (1≤(k:Int)∧(k:Int) < 13)))))∧True∧(((decide (1≤(k:Int)∧(k:Int) < 13))=true→tU3 (RV.tup [rJ ((k:Int)),RV.d (dQ true)]=RV.tup zz3))∧((decide (1≤(k:Int)∧(k:Int) < 13))=false→tU2 (∃ k':Nat,(k'≤13∧∀ j:Nat,1≤j→j < k'→ofS (zQc (j:Int))≠w)∧(13 - k' < 13 - k)∧(zz4 k k')))))∧(((sAt (zz1) ((k:Int).toNat*1)).toList==(toS w).toList)=(!true)→tU3 (∃ k':Nat,(k'≤13∧∀ j:Nat,1≤j→j < k'→ofS (zQc (j:Int))≠w)∧(13 - k' < 13 - k)∧(zz4 k k'))))))∧((decide ((k:Int) < (13:Int)))=false→tU2 (RV.tup [rJ (0),RV.d (dQ false)]=RV.tup zz3)))))):=by kernel_rfl
theorem zHd (w:Lb):Ans Tryz.prog 158 [RV.d (DV.str (toS w))] (RV.tup [RV.d (DV.int .i64 ((nmR zQc (ofS (toS w))).1)),RV.d (DV.bool ((nmR zQc (ofS (toS w))).2))]):=
 zQo (Γ:=jJd) (zKK w) zQC Tryz.func158 rfl (Nat.le_of_ble_eq_true rfl) fun hwf=>by
  refine Eq.mpr (zHG w) ?_
  delta tU2 tU3 tU6 dJ dQ wK rJ
  simp only [true_and,and_true,RV.d.injEq,RV.agg.injEq,RV.tup.injEq,DV.bool.injEq,DV.int.injEq,DV.sl.injEq,List.cons.injEq,forall_const,Bool.not_false,Bool.not_true,Bool.not_eq_true',Bool.not_eq_false',decide_eq_true_eq,decide_eq_false_iff_not,Int.toNat_natCast]
  simp only [zZh]
  clear hwf
  have hg:[DV.str (sAt zQk 0),DV.str (sAt zQk 1),DV.str (sAt zQk 2),DV.str (sAt zQk 3),DV.str (sAt zQk 4),DV.str (sAt zQk 5),DV.str (sAt zQk 6),DV.str (sAt zQk 7),DV.str (sAt zQk 8),DV.str (sAt zQk 9),DV.str (sAt zQk 10),DV.str (sAt zQk 11),DV.str (sAt zQk 12)]=zQk:=rfl
  rw [hg]
  refine ⟨by (repeat' apply And.intro) <;> rfl,⟨0,⟨Nat.zero_le _,fun j h1 h2=>absurd h2 (Nat.not_lt_zero j)⟩,rfl⟩,fun k hk=>⟨fun hlt=>?_,fun hge=>?_⟩⟩
  ·have hk13:k < 13:=by omega
   have w1:IntKind.wrap .i64 ((k:Int)+1)=((k+1:Nat):Int):=by rw [IntWalk.i64_in _ ⟨by omega,by omega⟩]; omega
   have hrd:zQk[k*1]?=some (DV.str (sAt zQk (k*1))):=by
    have:k=0∨k=1∨k=2∨k=3∨k=4∨k=5∨k=6∨k=7∨k=8∨k=9∨k=10∨k=11∨k=12:=by omega
    rcases this with rfl | rfl | rfl | rfl | rfl | rfl | rfl | rfl | rfl | rfl | rfl | rfl | rfl <;> rfl
   have hnm:1≤k→sAt zQk (k*1)=zQc (k:Int):=fun h=>by unfold zQc; rw [if_pos ⟨by omega,by omega⟩,Int.toNat_natCast]; rw [Nat.mul_one]
   have next:(1≤k→ofS (zQc (k:Int))≠w)→∃ k',(k'≤13∧∀ j:Nat,1≤j→j < k'→ofS (zQc (j:Int))≠w)∧13 - k' < 13 - k∧IntKind.wrap .i64 ((k:Int)+1)=(k':Int):=fun h=>⟨k+1,⟨by omega,fun j h1 h2=>by
    rcases Nat.lt_or_ge j k with h3 | h3
    ·exact hk.2 j h1 h3
    ·have:j=k:=by omega
     subst this; exact h h1⟩,by omega,w1⟩
   have hit:1≤k→ofS (zQc (k:Int))=w→nmR zQc w=((k:Int),true):=fun h1 h2=>by
    obtain ⟨m,rfl⟩:∃ m,k=m+1:=⟨k - 1,by omega⟩
    have e:=jYY (f:=zQc) (w:=w) (k:=m) (by omega) (by simpa using h2) (fun j hj=>by simpa using hk.2 (j+1) (by omega) (by omega))
    rw [e]; simp
   simp only [jVp,decide_eq_true_eq,decide_eq_false_iff_not]
   have aV:=zKI (k:Int)
   refine ⟨⟨by omega,by omega,hrd⟩,fun h=>⟨aV,fun h2=>?_,fun h2=>next fun h1=>absurd ⟨by omega,by omega⟩ h2⟩,fun h=>next fun h1=>by rw [← hnm h1]; exact h⟩
   rw [hnm (by omega)] at h
   rw [hit (by omega) h]
   exact ⟨rfl,rfl⟩
  ·rw [jYZ (f:=zQc) fun j hj=>by simpa using hk.2 (j+1) (by omega) (by omega)]
   exact ⟨rfl,rfl⟩
end Go.Proofs.YtheidkkebdhmkaaGreatDoor
namespace Go.Proofs
open Go.Shelf
def Tryz.lays169_ren:Go.Shelf.Ren:=⟨fun | 169=>29 | n=>n,fun | 70=>79 | 9=>9 | 0=>0 | 72=>82 | 37=>80 | 127=>122 | 3=>3 | 5=>5 | n=>n,fun | n=>n⟩
theorem Tryz.lays169:Go.Proofs.Lays.n169 Tryz.prog Tryz.lays169_ren:=by
 repeat' first | kernel_rfl | (intro; kernel_rfl) | constructor
theorem Tryz.Builder_Extra_169:Builder.Extra Tryz.prog Tryz.lays169_ren:={
 sizeBuilder:=by kernel_rfl
 liesBuilder:=by kernel_rfl
 t5:=Tryz.underlying5
 a5:=Tryz.isAgg5
 z5:=Tryz.sizeOf5
 v5:=Tryz.zeroValue5
 infoByte:=by kernel_rfl
 cellsByte:=by kernel_rfl
 sizeByte:=by kernel_rfl
 neB5:=by decide }
open Go.RowKit in
theorem Tryz.Builder_String (B b:Nat) (l:List UInt8) (w:World) (h:Lib.IsBuilder 82 5 B b (Lib.byteCells l) w) (h0:l≠[]) :
    Calls Tryz.prog 29 #[.pointer (some ⟨b,0,none⟩)] w fun e w'=>e=.returned (.string ⟨l.toArray⟩)∧Below B w w':=Any.Builder_String Tryz.lays169 Tryz.Builder_Extra_169 B b l w h h0
open Go.RowKit in
theorem Tryz.Builder_String_empty (B b:Nat) (w:World) (h:Lib.IsBuilder 82 5 B b [] w) (hBw:B≤w.heap.size) :
    Calls Tryz.prog 29 #[.pointer (some ⟨b,0,none⟩)] w fun e w'=>e=.returned (.string ⟨#[]⟩)∧Below B w w':=Any.Builder_String_empty Tryz.lays169 Tryz.Builder_Extra_169 B b w h hBw
open Go.RowKit in
theorem Tryz.Builder_String_any (B b:Nat) (l:List UInt8) (w:World) (h:Lib.IsBuilder 82 5 B b (Lib.byteCells l) w) (hBw:B≤w.heap.size) :
    Calls Tryz.prog 29 #[.pointer (some ⟨b,0,none⟩)] w fun e w'=>e=.returned (.string ⟨l.toArray⟩)∧Below B w w':=Any.Builder_String_any Tryz.lays169 Tryz.Builder_Extra_169 B b l w h hBw
def Tryz.lays244_ren:Go.Shelf.Ren:=⟨fun | 244=>153 | 247=>166 | 287=>178 | 321=>183 | 322=>184 | n=>n,fun | 9=>9 | 3=>3 | 75=>117 | 4=>4 | 5=>5 | 167=>202 | 37=>80 | 0=>0 | 85=>203 | 2=>2 | 53=>155 | 175=>212 | 46=>173 | 21=>21 | 80=>88 | n=>n,fun | n=>n⟩
theorem Tryz.lays244:Go.Proofs.Lays.n244 Tryz.prog Tryz.lays244_ren:=by
 repeat' first | kernel_rfl | (intro; kernel_rfl) | constructor
open Go.RowKit in
theorem Tryz.internal_strconv_Atoi (s:ByteArray) (n:Int) (hl:s.size≤18) (h:Lib.atoi s.data.toList=some n) (w:World) :
    Calls Tryz.prog 153 #[.string s] w fun e w'=>e=.returned (.tuple #[.int .i64 n,.nilIface])∧∃ t,w'=Lib.bytesWorld w 5 t:=Any.internal_strconv_Atoi Tryz.lays244 s n hl h w
def Tryz.lays172_ren:Go.Shelf.Ren:=⟨fun | 172=>138 | 244=>153 | 245=>154 | 247=>166 | 279=>167 | 280=>168 | 281=>169 | 282=>170 | 287=>178 | 316=>179 | 171=>97 | 205=>180 | 321=>183 | 322=>184 | 243=>123 | 246=>145 | 283=>159 | 284=>160 | 285=>161 | 286=>162 | 129=>173 | 317=>172 | 318=>174 | 319=>175 | 320=>176 | 337=>181 | 338=>182 | n=>n,fun | 9=>9 | 3=>3 | 75=>117 | 76=>119 | 4=>4 | 5=>5 | 167=>202 | 37=>80 | 0=>0 | 85=>203 | 2=>2 | 168=>205 | 53=>155 | 175=>212 | 46=>173 | 210=>216 | 127=>122 | 145=>226 | 143=>224 | 21=>21 | 171=>194 | 173=>197 | 212=>209 | 51=>188 | 20=>20 | 213=>210 | 232=>227 | 233=>228 | 80=>88 | n=>n,fun | 15=>4 | 16=>5 | 17=>3 | 18=>8 | 19=>9 | n=>n⟩
theorem Tryz.lays172:Go.Proofs.Lays.n172 Tryz.prog Tryz.lays172_ren:=by
 repeat' first | kernel_rfl | (intro; kernel_rfl) | constructor
open Go.RowKit in
theorem Tryz.strconv_Atoi (s:ByteArray) (n:Int) (hl:s.size≤18) (h:Lib.atoi s.data.toList=some n) (w:World) :
    Calls Tryz.prog 138 #[.string s] w fun e w'=>e=.returned (.tuple #[.int .i64 n,.nilIface])∧∃ t,w'=Lib.bytesWorld w 5 t:=Any.strconv_Atoi Tryz.lays172 s n hl h w
def Tryz.lays129_ren:Go.Shelf.Ren:=⟨fun | 129=>173 | n=>n,fun | 53=>155 | 3=>3 | 4=>4 | 46=>173 | 5=>5 | 9=>9 | n=>n,fun | n=>n⟩
theorem Tryz.lays129:Go.Proofs.Lays.n129 Tryz.prog Tryz.lays129_ren:=by
 repeat' first | kernel_rfl | (intro; kernel_rfl) | constructor
theorem Tryz.bits_Len64 (x:Int) (w:World) (h0:0≤x) (h1:x≤18446744073709551615) :
  Calls Tryz.prog 173 #[.int .u64 x] w fun e w'=>e=.returned (.int .i64 (Lib.bitLen x.toNat))∧w'=w:=Any.bits_Len64 Tryz.lays129 x w h0 h1
def Tryz.lays317_ren:Go.Shelf.Ren:=⟨fun | 317=>172 | n=>n,fun | 3=>3 | 46=>173 | n=>n,fun | n=>n⟩
theorem Tryz.lays317:Go.Proofs.Lays.n317 Tryz.prog Tryz.lays317_ren:=by
 repeat' first | kernel_rfl | (intro; kernel_rfl) | constructor
open Go.Lib in
theorem Tryz.internal_strconv_log10Pow2 (x:Nat) (h:x≤64) (w:World) :
    Calls Tryz.prog 172 #[.int .i64 x] w fun e w'=>e=.returned (.int .i64 (Lib.l10 x))∧w'=w:=Any.internal_strconv_log10Pow2 Tryz.lays317 x h w
def Tryz.lays318_ren:Go.Shelf.Ren:=⟨fun | 318=>174 | n=>n,fun | 3=>3 | 4=>4 | n=>n,fun | n=>n⟩
theorem Tryz.lays318:Go.Proofs.Lays.n318 Tryz.prog Tryz.lays318_ren:=by
 repeat' first | kernel_rfl | (intro; kernel_rfl) | constructor
open Go.Lib in
theorem Tryz.internal_strconv_bool2_int (b:Bool) (w:World) :
    Calls Tryz.prog 174 #[.bool b] w fun e w'=>e=.returned (.int .i64 (if b then 1 else 0))∧w'=w:=Any.internal_strconv_bool2_int Tryz.lays318 b w
def Tryz.lays283_ren:Go.Shelf.Ren:=⟨fun | 283=>159 | n=>n,fun | 3=>3 | 9=>9 | 4=>4 | n=>n,fun | n=>n⟩
theorem Tryz.lays283:Go.Proofs.Lays.n283 Tryz.prog Tryz.lays283_ren:=by
 repeat' first | kernel_rfl | (intro; kernel_rfl) | constructor
open Go.Lib in
theorem Tryz.internal_strconv_small (i:Nat) (h:i < 100) (w:World) :
    Calls Tryz.prog 159 #[.int .i64 i] w fun e w'=>e=.returned (.string ⟨(Lib.decDigits i).toArray⟩)∧w'=w:=Any.internal_strconv_small Tryz.lays283 i h w
def Tryz.laysM284_ren:Go.Shelf.Ren:=⟨fun | 284=>160 | 129=>173 | 317=>172 | 318=>174 | n=>n,fun | 53=>155 | 3=>3 | 212=>209 | 0=>0 | 4=>4 | 46=>173 | 5=>5 | 9=>9 | n=>n,fun | 17=>3 | n=>n⟩
theorem Tryz.laysM284:Go.Proofs.LaysM.n284 Tryz.prog Tryz.laysM284_ren:=by
 repeat' first | kernel_rfl | (intro; kernel_rfl) | constructor
open Go.Lib in
theorem Tryz.internal_strconv_numDigits (u:Nat) (h1:1≤u) (h2:u < 18446744073709551616) (w:World) (htab:Lib.TabIs Tryz.prog w "internal/strconv.uint64pow10" .u64 Lib.pow10Tab) :
    Calls Tryz.prog 160 #[.int .u64 u] w fun e w'=>e=.returned (.int .i64 (Lib.nDigits u))∧w'=w:=Any.internal_strconv_numDigits Tryz.laysM284 u h1 h2 w htab
def Tryz.lays285_ren:Go.Shelf.Ren:=⟨fun | 285=>161 | n=>n,fun | 37=>80 | 53=>155 | 3=>3 | 4=>4 | 51=>188 | 9=>9 | 5=>5 | 0=>0 | n=>n,fun | n=>n⟩
theorem Tryz.lays285:Go.Proofs.Lays.n285 Tryz.prog Tryz.lays285_ren:=by
 repeat' first | kernel_rfl | (intro; kernel_rfl) | constructor
open Go.RowKit Go.Sort Go.Lib in
theorem Tryz.internal_strconv_formatBase10 (blk off cap u:Nat) (d:Array UInt8) (w:World) (hH:Holds (fun (b:UInt8)=>Value.int .u8 (b.toNat:Int)) w blk off d) (hu:u < 10 ^ d.size) (hu64:u < 18446744073709551616) (hsz:d.size < 4611686018427387904) :
    Calls Tryz.prog 161 #[.slice (some ⟨blk,off,none⟩) d.size cap,.int .u64 u] w fun e w'=>
      e=.returned (.tuple #[])∧∃ (n v':Nat) (dk:Array UInt8),w'=(putRow (fun (b:UInt8)=>Value.int .u8 (b.toNat:Int)) w blk off dk).drewN n∧FmtInv d.size u 0 v' dk:=Any.internal_strconv_formatBase10 Tryz.lays285 blk off cap u d w hH hu hu64 hsz
def Tryz.laysM246_ren:Go.Shelf.Ren:=⟨fun | 246=>145 | 283=>159 | 284=>160 | 285=>161 | 286=>162 | 129=>173 | 317=>172 | 318=>174 | 319=>175 | 320=>176 | 337=>181 | 338=>182 | n=>n,fun | 2=>2 | 3=>3 | 9=>9 | 4=>4 | 171=>194 | 0=>0 | 53=>155 | 37=>80 | 5=>5 | 173=>197 | 212=>209 | 51=>188 | 20=>20 | 213=>210 | 46=>173 | 232=>227 | 233=>228 | n=>n,fun | 17=>3 | 18=>8 | 19=>9 | n=>n⟩
theorem Tryz.laysM246:Go.Proofs.LaysM.n246 Tryz.prog Tryz.laysM246_ren:=by
 repeat' first | kernel_rfl | (intro; kernel_rfl) | constructor
open Go.RowKit Go.Sort Go.Lib in
theorem Tryz.internal_strconv_FormatInt_10 (n:Int) (h0 : -9223372036854775808≤n) (h1:n≤9223372036854775807) (w:World) (htab:Lib.TabIs Tryz.prog w "internal/strconv.uint64pow10" .u64 Lib.pow10Tab) :
    Calls Tryz.prog 145 #[.int .i64 n,.int .i64 10] w fun e w'=>e=.returned (.string ⟨(Lib.itoa n).toArray⟩)∧∃ k os,w'=grow (w.drewN k) os:=Any.internal_strconv_FormatInt_10 Tryz.laysM246 n h0 h1 w htab
def Tryz.lays246_ren:Go.Shelf.Ren:=⟨fun | 246=>145 | 283=>159 | 284=>160 | 285=>161 | 286=>162 | 129=>173 | 317=>172 | 318=>174 | 319=>175 | 320=>176 | 337=>181 | 338=>182 | n=>n,fun | 2=>2 | 3=>3 | 9=>9 | 4=>4 | 171=>194 | 0=>0 | 53=>155 | 37=>80 | 5=>5 | 173=>197 | 212=>209 | 51=>188 | 20=>20 | 213=>210 | 46=>173 | 232=>227 | 233=>228 | n=>n,fun | 17=>3 | 18=>8 | 19=>9 | n=>n⟩
theorem Tryz.lays246:Go.Proofs.Lays.n246 Tryz.prog Tryz.lays246_ren:=by
 repeat' first | kernel_rfl | (intro; kernel_rfl) | constructor
open Go.RowKit Go.Sort Go.Lib in
theorem Tryz.internal_strconv_FormatInt_10_small (i:Nat) (hi:i < 100) (w:World) :
    Calls Tryz.prog 145 #[.int .i64 i,.int .i64 10] w fun e w'=>e=.returned (.string ⟨(Lib.decDigits i).toArray⟩)∧w'=w:=Any.internal_strconv_FormatInt_10_small Tryz.lays246 i hi w
def Tryz.laysM243_ren:Go.Shelf.Ren:=⟨fun | 243=>123 | 246=>145 | 283=>159 | 284=>160 | 285=>161 | 286=>162 | 129=>173 | 317=>172 | 318=>174 | 319=>175 | 320=>176 | 337=>181 | 338=>182 | n=>n,fun | 3=>3 | 9=>9 | 2=>2 | 4=>4 | 171=>194 | 0=>0 | 53=>155 | 37=>80 | 5=>5 | 173=>197 | 212=>209 | 51=>188 | 20=>20 | 213=>210 | 46=>173 | 232=>227 | 233=>228 | n=>n,fun | 17=>3 | 18=>8 | 19=>9 | n=>n⟩
theorem Tryz.laysM243:Go.Proofs.LaysM.n243 Tryz.prog Tryz.laysM243_ren:=by
 repeat' first | kernel_rfl | (intro; kernel_rfl) | constructor
open Go.RowKit Go.Sort Go.Lib in
theorem Tryz.internal_strconv_Itoa (n:Int) (h0 : -9223372036854775808≤n) (h1:n≤9223372036854775807) (w:World) (htab:Lib.TabIs Tryz.prog w "internal/strconv.uint64pow10" .u64 Lib.pow10Tab) :
    Calls Tryz.prog 123 #[.int .i64 n] w fun e w'=>e=.returned (.string ⟨(Lib.itoa n).toArray⟩)∧∃ k os,w'=grow (w.drewN k) os:=Any.internal_strconv_Itoa Tryz.laysM243 n h0 h1 w htab
def Tryz.lays243_ren:Go.Shelf.Ren:=⟨fun | 243=>123 | 246=>145 | 283=>159 | 284=>160 | 285=>161 | 286=>162 | 129=>173 | 317=>172 | 318=>174 | 319=>175 | 320=>176 | 337=>181 | 338=>182 | n=>n,fun | 3=>3 | 9=>9 | 2=>2 | 4=>4 | 171=>194 | 0=>0 | 53=>155 | 37=>80 | 5=>5 | 173=>197 | 212=>209 | 51=>188 | 20=>20 | 213=>210 | 46=>173 | 232=>227 | 233=>228 | n=>n,fun | 17=>3 | 18=>8 | 19=>9 | n=>n⟩
theorem Tryz.lays243:Go.Proofs.Lays.n243 Tryz.prog Tryz.lays243_ren:=by
 repeat' first | kernel_rfl | (intro; kernel_rfl) | constructor
open Go.RowKit Go.Sort Go.Lib in
theorem Tryz.internal_strconv_Itoa_small (i:Nat) (hi:i < 100) (w:World) :
    Calls Tryz.prog 123 #[.int .i64 i] w fun e w'=>e=.returned (.string ⟨(Lib.decDigits i).toArray⟩)∧w'=w:=Any.internal_strconv_Itoa_small Tryz.lays243 i hi w
def Tryz.laysM171_ren:Go.Shelf.Ren:=⟨fun | 171=>97 | 243=>123 | 246=>145 | 283=>159 | 284=>160 | 285=>161 | 286=>162 | 129=>173 | 317=>172 | 318=>174 | 319=>175 | 320=>176 | 337=>181 | 338=>182 | n=>n,fun | 3=>3 | 9=>9 | 2=>2 | 4=>4 | 171=>194 | 0=>0 | 53=>155 | 37=>80 | 5=>5 | 173=>197 | 212=>209 | 51=>188 | 20=>20 | 213=>210 | 46=>173 | 232=>227 | 233=>228 | n=>n,fun | 17=>3 | 18=>8 | 19=>9 | n=>n⟩
theorem Tryz.laysM171:Go.Proofs.LaysM.n171 Tryz.prog Tryz.laysM171_ren:=by
 repeat' first | kernel_rfl | (intro; kernel_rfl) | constructor
open Go.RowKit Go.Sort Go.Lib in
theorem Tryz.strconv_Itoa (n:Int) (h0 : -9223372036854775808≤n) (h1:n≤9223372036854775807) (w:World) (htab:Lib.TabIs Tryz.prog w "internal/strconv.uint64pow10" .u64 Lib.pow10Tab) :
    Calls Tryz.prog 97 #[.int .i64 n] w fun e w'=>e=.returned (.string ⟨(Lib.itoa n).toArray⟩)∧∃ k os,w'=grow (w.drewN k) os:=Any.strconv_Itoa Tryz.laysM171 n h0 h1 w htab
def Tryz.lays171_ren:Go.Shelf.Ren:=⟨fun | 171=>97 | 243=>123 | 246=>145 | 283=>159 | 284=>160 | 285=>161 | 286=>162 | 129=>173 | 317=>172 | 318=>174 | 319=>175 | 320=>176 | 337=>181 | 338=>182 | n=>n,fun | 3=>3 | 9=>9 | 2=>2 | 4=>4 | 171=>194 | 0=>0 | 53=>155 | 37=>80 | 5=>5 | 173=>197 | 212=>209 | 51=>188 | 20=>20 | 213=>210 | 46=>173 | 232=>227 | 233=>228 | n=>n,fun | 17=>3 | 18=>8 | 19=>9 | n=>n⟩
theorem Tryz.lays171:Go.Proofs.Lays.n171 Tryz.prog Tryz.lays171_ren:=by
 repeat' first | kernel_rfl | (intro; kernel_rfl) | constructor
open Go.RowKit Go.Sort Go.Lib in
theorem Tryz.strconv_Itoa_small (i:Nat) (hi:i < 100) (w:World) :
    Calls Tryz.prog 97 #[.int .i64 i] w fun e w'=>e=.returned (.string ⟨(Lib.decDigits i).toArray⟩)∧w'=w:=Any.strconv_Itoa_small Tryz.lays171 i hi w
open Go.RowKit in
theorem Tryz.internal_strconv_Atoi_err (s:ByteArray) (hl0:1≤s.size) (hl:s.size≤18) (h:Lib.atoi s.data.toList=none) (w:World) :
    Calls Tryz.prog 153 #[.string s] w fun e w'=>e=.returned (.tuple #[.int .i64 0,(.iface 202 (.int .i64 2))])∧(w'=w∨∃ t,w'=Lib.bytesWorld w 5 t):=Any.internal_strconv_Atoi_err Tryz.lays244 s hl0 hl h w
def Tryz.lays247_ren:Go.Shelf.Ren:=⟨fun | 247=>166 | 287=>178 | 321=>183 | 322=>184 | n=>n,fun | 9=>9 | 3=>3 | 2=>2 | 75=>117 | 4=>4 | 167=>202 | 5=>5 | 53=>155 | 175=>212 | 46=>173 | 37=>80 | 0=>0 | 21=>21 | 80=>88 | n=>n,fun | n=>n⟩
theorem Tryz.lays247:Go.Proofs.Lays.n247 Tryz.prog Tryz.lays247_ren:=by
 repeat' first | kernel_rfl | (intro; kernel_rfl) | constructor
open Go.RowKit in
theorem Tryz.internal_strconv_ParseInt_empty (base bits:Int) (w:World) :
    Calls Tryz.prog 166 #[.string ⟨#[]⟩,.int .i64 base,.int .i64 bits] w fun e w'=>e=.returned (.tuple #[.int .i64 0,(.iface 202 (.int .i64 2))])∧w'=w:=Any.internal_strconv_ParseInt_empty Tryz.lays247 base bits w
open Go.RowKit in
theorem Tryz.internal_strconv_Atoi_empty (w:World) :
    Calls Tryz.prog 153 #[.string ⟨#[]⟩] w fun e w'=>e=.returned (.tuple #[.int .i64 0,(.iface 202 (.int .i64 2))])∧w'=w:=Any.internal_strconv_Atoi_empty Tryz.lays244 w
open Go.RowKit in
theorem Tryz.internal_strconv_Atoi_fail (s:ByteArray) (hl:s.size≤18) (h:Lib.atoi s.data.toList=none) (w:World) :
    Calls Tryz.prog 153 #[.string s] w fun e w'=>e=.returned (.tuple #[.int .i64 0,(.iface 202 (.int .i64 2))])∧(w'=w∨∃ t,w'=Lib.bytesWorld w 5 t):=Any.internal_strconv_Atoi_fail Tryz.lays244 s hl h w
def Tryz.laysM316_ren:Go.Shelf.Ren:=⟨fun | 316=>179 | n=>n,fun | 9=>9 | 3=>3 | 4=>4 | 37=>80 | 0=>0 | 127=>122 | 5=>5 | n=>n,fun | n=>n⟩
theorem Tryz.laysM316:Go.Proofs.LaysM.n316 Tryz.prog Tryz.laysM316_ren:=by
 repeat' first | kernel_rfl | (intro; kernel_rfl) | constructor
open Go.RowKit in
theorem Tryz.stringslite_Clone (s:ByteArray) (w:World) (hlim:s.size≤281474976710656) :
    Calls Tryz.prog 179 #[.string s] w fun e w'=>e=.returned (.string s)∧Below w.heap.size w w':=Any.stringslite_Clone Tryz.laysM316 s w hlim
def Tryz.laysM279_ren:Go.Shelf.Ren:=⟨fun | 279=>167 | 316=>179 | n=>n,fun | 9=>9 | 168=>205 | 75=>117 | 210=>216 | 3=>3 | 4=>4 | 37=>80 | 0=>0 | 127=>122 | 80=>88 | 5=>5 | n=>n,fun | 15=>4 | n=>n⟩
theorem Tryz.laysM279:Go.Proofs.LaysM.n279 Tryz.prog Tryz.laysM279_ren:=by
 repeat' first | kernel_rfl | (intro; kernel_rfl) | constructor
open Go.RowKit in
theorem Tryz.strconv_syntaxError (fn s:ByteArray) (ev:Value) (w:World) (hlim:s.size≤281474976710656) (hv:w.cell? ⟨4,0,none⟩=some ev) (hev:ev=.nilIface∨∃ te pe,ev=.iface te pe) :
    Calls Tryz.prog 167 #[.string fn,.string s] w fun e w'=>∃ N,e=.returned (.pointer (some ⟨N,0,none⟩))∧w.heap.size≤N∧w'.heap[N]?=some (.cells #[.string fn,.string s,ev] 216 (0,0))∧Below w.heap.size w w':=Any.strconv_syntaxError Tryz.laysM279 fn s ev w hlim hv hev
def Tryz.laysC245_ren:Go.Shelf.Ren:=⟨fun | 245=>154 | 279=>167 | 280=>168 | 281=>169 | 282=>170 | 316=>179 | 171=>97 | 205=>180 | 243=>123 | 246=>145 | 283=>159 | 284=>160 | 285=>161 | 286=>162 | 129=>173 | 317=>172 | 318=>174 | 319=>175 | 320=>176 | 337=>181 | 338=>182 | n=>n,fun | 9=>9 | 3=>3 | 75=>117 | 167=>202 | 4=>4 | 168=>205 | 210=>216 | 37=>80 | 0=>0 | 127=>122 | 145=>226 | 143=>224 | 2=>2 | 171=>194 | 53=>155 | 5=>5 | 173=>197 | 212=>209 | 51=>188 | 20=>20 | 213=>210 | 46=>173 | 232=>227 | 233=>228 | 80=>88 | n=>n,fun | 15=>4 | 16=>5 | 17=>3 | 18=>8 | 19=>9 | n=>n⟩
theorem Tryz.laysC245:Go.Proofs.LaysC.n245 Tryz.prog Tryz.laysC245_ren:=by
 repeat' first | kernel_rfl | (intro; kernel_rfl) | constructor
open Go.RowKit in
theorem Tryz.strconv_toError_syntax (fn s:ByteArray) (base bits:Int) (ev:Value) (w:World) (hlim:s.size≤281474976710656) (hv:w.cell? ⟨4,0,none⟩=some ev) (hev:ev=.nilIface∨∃ te pe,ev=.iface te pe) :
    Calls Tryz.prog 154 #[.string fn,.string s,.int .i64 base,.int .i64 bits,.iface 202 (.int .i64 2)] w fun e w'=>∃ N,e=.returned (.iface 205 (.pointer (some ⟨N,0,none⟩)))∧w.heap.size≤N∧w'.heap[N]?=some (.cells #[.string fn,.string s,ev] 216 (0,0))∧Below w.heap.size w w':=Any.strconv_toError_syntax Tryz.laysC245 fn s base bits ev w hlim hv hev
def Tryz.lays321_ren:Go.Shelf.Ren:=⟨fun | 321=>183 | n=>n,fun | 5=>5 | n=>n,fun | n=>n⟩
theorem Tryz.lays321:Go.Proofs.Lays.n321 Tryz.prog Tryz.lays321_ren:=by
 repeat' first | kernel_rfl | (intro; kernel_rfl) | constructor
open Go.RowKit in
theorem Tryz.internal_strconv_lower (c:Int) (w:World) :
    Calls Tryz.prog 183 #[.int .u8 c] w fun e w'=>e=.returned (.int .u8 (bits .or .u8 c 32))∧w'=w:=Any.internal_strconv_lower Tryz.lays321 c w
def Tryz.lays287_ren:Go.Shelf.Ren:=⟨fun | 287=>178 | 321=>183 | 322=>184 | n=>n,fun | 9=>9 | 3=>3 | 53=>155 | 75=>117 | 4=>4 | 167=>202 | 5=>5 | 46=>173 | 37=>80 | 0=>0 | 21=>21 | 80=>88 | n=>n,fun | n=>n⟩
theorem Tryz.lays287:Go.Proofs.Lays.n287 Tryz.prog Tryz.lays287_ren:=by
 repeat' first | kernel_rfl | (intro; kernel_rfl) | constructor
open Go.RowKit in
theorem Tryz.internal_strconv_ParseUint_10 (t:ByteArray) (hne:t.size≠0) (hmax:t.size≤9223372036854775806) (w:World) :
    Calls Tryz.prog 178 #[.string t,.int .i64 10,.int .i64 0] w fun e w'=>e=.returned (Lib.uintTuple 202 (Lib.parseUint10 0 t.data.toList))∧w'=Lib.bytesWorld w 5 t:=Any.internal_strconv_ParseUint_10 Tryz.lays287 t hne hmax w
open Go.RowKit in
theorem Tryz.internal_strconv_ParseUint_10_any (t:ByteArray) (hmax:t.size≤9223372036854775806) (w:World) :
    Calls Tryz.prog 178 #[.string t,.int .i64 10,.int .i64 0] w fun e w'=>e=.returned (Lib.uintTuple 202 (Lib.parseMag t.data.toList))∧(w'=w∨w'=Lib.bytesWorld w 5 t):=Any.internal_strconv_ParseUint_10_any Tryz.lays287 t hmax w
def Tryz.laysC247_ren:Go.Shelf.Ren:=⟨fun | 247=>166 | 287=>178 | 321=>183 | 322=>184 | n=>n,fun | 9=>9 | 3=>3 | 2=>2 | 75=>117 | 4=>4 | 167=>202 | 5=>5 | 53=>155 | 175=>212 | 46=>173 | 37=>80 | 0=>0 | 21=>21 | 80=>88 | n=>n,fun | n=>n⟩
theorem Tryz.laysC247:Go.Proofs.LaysC.n247 Tryz.prog Tryz.laysC247_ren:=by
 repeat' first | kernel_rfl | (intro; kernel_rfl) | constructor
open Go.RowKit in
theorem Tryz.internal_strconv_ParseInt_10 (s:ByteArray) (hne:s.size≠0) (hmax:s.size≤9223372036854775806) (w:World) :
    Calls Tryz.prog 166 #[.string s,.int .i64 10,.int .i64 0] w fun e w'=>e=.returned (Lib.intTuple 202 (Lib.atoiSat s.data.toList) (Lib.atoiAll s.data.toList))∧(w'=w∨∃ t,w'=Lib.bytesWorld w 5 t):=Any.internal_strconv_ParseInt_10 Tryz.laysC247 s hne hmax w
def Tryz.laysC244_ren:Go.Shelf.Ren:=⟨fun | 244=>153 | 247=>166 | 287=>178 | 321=>183 | 322=>184 | n=>n,fun | 9=>9 | 3=>3 | 75=>117 | 4=>4 | 5=>5 | 167=>202 | 37=>80 | 0=>0 | 85=>203 | 2=>2 | 53=>155 | 175=>212 | 46=>173 | 21=>21 | 80=>88 | n=>n,fun | n=>n⟩
theorem Tryz.laysC244:Go.Proofs.LaysC.n244 Tryz.prog Tryz.laysC244_ren:=by
 repeat' first | kernel_rfl | (intro; kernel_rfl) | constructor
open Go.RowKit in
theorem Tryz.internal_strconv_Atoi_long (s:ByteArray) (h19:19≤s.size) (hmax:s.size≤9223372036854775806) (w:World) :
    Calls Tryz.prog 153 #[.string s] w fun e w'=>e=.returned (Lib.intTuple 202 (Lib.atoiSat s.data.toList) (Lib.atoiAll s.data.toList))∧(w'=w∨∃ t,w'=Lib.bytesWorld w 5 t):=Any.internal_strconv_Atoi_long Tryz.laysC244 s h19 hmax w
open Go.RowKit in
theorem Tryz.internal_strconv_Atoi_all (s:ByteArray) (hmax:s.size≤9223372036854775806) (w:World) :
    Calls Tryz.prog 153 #[.string s] w fun e w'=>e=.returned (Lib.intTuple 202 (Lib.atoiSat s.data.toList) (Lib.atoiAll s.data.toList))∧(w'=w∨∃ t,w'=Lib.bytesWorld w 5 t):=Any.internal_strconv_Atoi_all Tryz.laysC244 s hmax w
def Tryz.laysM280_ren:Go.Shelf.Ren:=⟨fun | 280=>168 | 316=>179 | n=>n,fun | 9=>9 | 168=>205 | 75=>117 | 210=>216 | 3=>3 | 4=>4 | 37=>80 | 0=>0 | 127=>122 | 80=>88 | 5=>5 | n=>n,fun | 16=>5 | n=>n⟩
theorem Tryz.laysM280:Go.Proofs.LaysM.n280 Tryz.prog Tryz.laysM280_ren:=by
 repeat' first | kernel_rfl | (intro; kernel_rfl) | constructor
open Go.RowKit in
theorem Tryz.strconv_rangeError (fn s:ByteArray) (ev:Value) (w:World) (hlim:s.size≤281474976710656) (hv:w.cell? ⟨5,0,none⟩=some ev) (hev:ev=.nilIface∨∃ te pe,ev=.iface te pe) :
    Calls Tryz.prog 168 #[.string fn,.string s] w fun e w'=>∃ N,e=.returned (.pointer (some ⟨N,0,none⟩))∧w.heap.size≤N∧w'.heap[N]?=some (.cells #[.string fn,.string s,ev] 216 (0,0))∧Below w.heap.size w w':=Any.strconv_rangeError Tryz.laysM280 fn s ev w hlim hv hev
open Go.RowKit in
theorem Tryz.strconv_toError_range (fn s:ByteArray) (base bits:Int) (ev:Value) (w:World) (hlim:s.size≤281474976710656) (hv:w.cell? ⟨5,0,none⟩=some ev) (hev:ev=.nilIface∨∃ te pe,ev=.iface te pe) :
    Calls Tryz.prog 154 #[.string fn,.string s,.int .i64 base,.int .i64 bits,.iface 202 (.int .i64 1)] w fun e w'=>∃ N,e=.returned (.iface 205 (.pointer (some ⟨N,0,none⟩)))∧w.heap.size≤N∧w'.heap[N]?=some (.cells #[.string fn,.string s,ev] 216 (0,0))∧Below w.heap.size w w':=Any.strconv_toError_range Tryz.laysC245 fn s base bits ev w hlim hv hev
def Tryz.laysC172_ren:Go.Shelf.Ren:=⟨fun | 172=>138 | 244=>153 | 245=>154 | 247=>166 | 279=>167 | 280=>168 | 281=>169 | 282=>170 | 287=>178 | 316=>179 | 171=>97 | 205=>180 | 321=>183 | 322=>184 | 243=>123 | 246=>145 | 283=>159 | 284=>160 | 285=>161 | 286=>162 | 129=>173 | 317=>172 | 318=>174 | 319=>175 | 320=>176 | 337=>181 | 338=>182 | n=>n,fun | 9=>9 | 3=>3 | 75=>117 | 76=>119 | 4=>4 | 5=>5 | 167=>202 | 37=>80 | 0=>0 | 85=>203 | 2=>2 | 168=>205 | 53=>155 | 175=>212 | 46=>173 | 210=>216 | 127=>122 | 145=>226 | 143=>224 | 21=>21 | 171=>194 | 173=>197 | 212=>209 | 51=>188 | 20=>20 | 213=>210 | 232=>227 | 233=>228 | 80=>88 | n=>n,fun | 15=>4 | 16=>5 | 17=>3 | 18=>8 | 19=>9 | n=>n⟩
theorem Tryz.laysC172:Go.Proofs.LaysC.n172 Tryz.prog Tryz.laysC172_ren:=by
 repeat' first | kernel_rfl | (intro; kernel_rfl) | constructor
open Go.RowKit in
theorem Tryz.strconv_Atoi_ok (s:ByteArray) (hmax:s.size≤9223372036854775806) (v:Int) (h:Lib.atoiAll s.data.toList=.ok v) (w:World) :
    Calls Tryz.prog 138 #[.string s] w fun e w'=>e=.returned (.tuple #[.int .i64 v,.nilIface])∧(w'=w∨∃ t,w'=Lib.bytesWorld w 5 t):=Any.strconv_Atoi_ok Tryz.laysC172 s hmax v h w
open Go.RowKit in
theorem Tryz.strconv_Atoi_range (s:ByteArray) (hlim:s.size≤281474976710656) (h:Lib.atoiAll s.data.toList=.range) (ev:Value) (w:World) (hv:w.cell? ⟨5,0,none⟩=some ev) (hev:ev=.nilIface∨∃ te pe,ev=.iface te pe) :
    Calls Tryz.prog 138 #[.string s] w fun e w'=>∃ N,e=.returned (.tuple #[.int .i64 (Lib.atoiSat s.data.toList),.iface 205 (.pointer (some ⟨N,0,none⟩))])∧w.heap.size≤N∧w'.heap[N]?=some (.cells #[.string ⟨#[65,116,111,105]⟩,.string s,ev] 216 (0,0))∧Below w.heap.size w w':=Any.strconv_Atoi_range Tryz.laysC172 s hlim h ev w hv hev
open Go.RowKit in
theorem Tryz.strconv_Atoi_range_var (s:ByteArray) (hlim:s.size≤281474976710656) (h:Lib.atoiAll s.data.toList=.range) (tp:TypeId) (p:Value) (w:World) (hvar:w.var? Tryz.prog "strconv.ErrRange" = some #[.iface tp p]) :
    Calls Tryz.prog 138 #[.string s] w fun e w'=>∃ N,e=.returned (.tuple #[.int .i64 (Lib.atoiSat s.data.toList),.iface 205 (.pointer (some ⟨N,0,none⟩))])∧w.heap.size≤N∧w'.heap[N]?=some (.cells #[.string ⟨#[65,116,111,105]⟩,.string s,.iface tp p] 216 (0,0))∧Below w.heap.size w w':=Any.strconv_Atoi_range_var Tryz.laysC172 s hlim h tp p w hvar
def Tryz.lays217_ren:Go.Shelf.Ren:=⟨fun | 217=>130 | 266=>148 | n=>n,fun | 9=>9 | 5=>5 | 3=>3 | n=>n,fun | n=>n⟩
theorem Tryz.lays217:Go.Proofs.Lays.n217 Tryz.prog Tryz.lays217_ren:=by
 repeat' first | kernel_rfl | (intro; kernel_rfl) | constructor
open Go.RowKit Go.Lib in
theorem Tryz.stringslite_IndexByte (s:ByteArray) (c:Int) (w:World) :
    Calls Tryz.prog 130 #[.string s,.int .u8 c] w fun e w'=>e=.returned (.int .i64 (Lib.indexByte s.data.toList c.toNat.toUInt8))∧w'=w:=Any.stringslite_IndexByte Tryz.lays217 s c w
def Tryz.lays224_ren:Go.Shelf.Ren:=⟨fun | 224=>132 | n=>n,fun | 3=>3 | n=>n,fun | n=>n⟩
theorem Tryz.lays224:Go.Proofs.Lays.n224 Tryz.prog Tryz.lays224_ren:=by
 repeat' first | kernel_rfl | (intro; kernel_rfl) | constructor
open Go.RowKit Go.Lib in
theorem Tryz.bytealg_Cutover (n:Int) (h0:0≤n) (h1:n < 4611686018427387904) (w:World) :
    Calls Tryz.prog 132 #[.int .i64 n] w fun e w'=>e=.returned (.int .i64 ((n+16) / 8))∧w'=w:=Any.bytealg_Cutover Tryz.lays224 n h0 h1 w
def Tryz.lays314_ren:Go.Shelf.Ren:=⟨fun | 314=>149 | n=>n,fun | 9=>9 | 51=>188 | 3=>3 | 4=>4 | 5=>5 | 46=>173 | n=>n,fun | n=>n⟩
theorem Tryz.lays314:Go.Proofs.Lays.n314 Tryz.prog Tryz.lays314_ren:=by
 repeat' first | kernel_rfl | (intro; kernel_rfl) | constructor
open Go.RowKit Go.Lib in
theorem Tryz.bytealg_hashStr (sep:ByteArray) (hs:sep.size < 4294967281) (w:World) :
    Calls Tryz.prog 149 #[.string sep] w fun e w'=>e=.returned (.tuple #[.int .u32 (RK.H sep.data.toList % 4294967296),.int .u32 (16777619 ^ sep.size % 4294967296)])∧w'=w:=Any.bytealg_hashStr Tryz.lays314 sep hs w
def Tryz.lays267_ren:Go.Shelf.Ren:=⟨fun | 267=>133 | 314=>149 | n=>n,fun | 9=>9 | 3=>3 | 146=>189 | 51=>188 | 4=>4 | 5=>5 | 46=>173 | n=>n,fun | n=>n⟩
theorem Tryz.lays267:Go.Proofs.Lays.n267 Tryz.prog Tryz.lays267_ren:=by
 repeat' first | kernel_rfl | (intro; kernel_rfl) | constructor
open Go.RowKit Go.Lib in
theorem Tryz.bytealg_IndexRabinKarp (s sep:ByteArray) (h1:1≤sep.size) (h2:sep.size≤s.size) (hs:s.size < 4294967281) (w:World) :
    Calls Tryz.prog 133 #[.string s,.string sep] w fun e w'=>e=.returned (.int .i64 (Lib.index s.data.toList sep.data.toList))∧w'=w:=Any.bytealg_IndexRabinKarp Tryz.lays267 s sep h1 h2 hs w
def Tryz.lays219_ren:Go.Shelf.Ren:=⟨fun | 219=>103 | 217=>130 | 225=>131 | 224=>132 | 267=>133 | 266=>148 | 314=>149 | n=>n,fun | 9=>9 | 3=>3 | 4=>4 | 5=>5 | 46=>173 | 146=>189 | 51=>188 | n=>n,fun | 1=>2 | n=>n⟩
theorem Tryz.lays219:Go.Proofs.Lays.n219 Tryz.prog Tryz.lays219_ren:=by
 repeat' first | kernel_rfl | (intro; kernel_rfl) | constructor
open Go.RowKit Go.Lib in
theorem Tryz.stringslite_Index_one (s:ByteArray) (c:UInt8) (w:World) :
    Calls Tryz.prog 103 #[.string s,.string ⟨#[c]⟩] w fun e w'=>e=.returned (.int .i64 (Lib.indexByte s.data.toList c))∧w'=w:=Any.stringslite_Index_one Tryz.lays219 s c w
open Go.RowKit Go.Lib in
theorem Tryz.stringslite_Index (s sub:ByteArray) (m:Int) (w:World) (hs:s.size < 4294967281) (hm:w.cell? ⟨2,0,none⟩=some (.int .i64 m)) :
    Calls Tryz.prog 103 #[.string s,.string sub] w fun e w'=>e=.returned (.int .i64 (Lib.index s.data.toList sub.data.toList))∧w'=w:=Any.stringslite_Index Tryz.lays219 s sub m w hs hm
def Tryz.lays143_ren:Go.Shelf.Ren:=⟨fun | 143=>152 | 219=>103 | 217=>130 | 225=>131 | 224=>132 | 267=>133 | 266=>148 | 314=>149 | n=>n,fun | 9=>9 | 3=>3 | 4=>4 | 5=>5 | 46=>173 | 146=>189 | 51=>188 | n=>n,fun | 1=>2 | n=>n⟩
theorem Tryz.lays143:Go.Proofs.Lays.n143 Tryz.prog Tryz.lays143_ren:=by
 repeat' first | kernel_rfl | (intro; kernel_rfl) | constructor
open Go.RowKit Go.Lib in
theorem Tryz.strings_Index_one (s:ByteArray) (c:UInt8) (w:World) :
    Calls Tryz.prog 152 #[.string s,.string ⟨#[c]⟩] w fun e w'=>e=.returned (.int .i64 (Lib.indexByte s.data.toList c))∧w'=w:=Any.strings_Index_one Tryz.lays143 s c w
open Go.RowKit Go.Lib in
theorem Tryz.strings_Index (s sub:ByteArray) (m:Int) (w:World) (hs:s.size < 4294967281) (hm:w.cell? ⟨2,0,none⟩=some (.int .i64 m)) :
    Calls Tryz.prog 152 #[.string s,.string sub] w fun e w'=>e=.returned (.int .i64 (Lib.index s.data.toList sub.data.toList))∧w'=w:=Any.strings_Index Tryz.lays143 s sub m w hs hm
def Tryz.lays220_ren:Go.Shelf.Ren:=⟨fun | 220=>71 | 219=>103 | 217=>130 | 225=>131 | 224=>132 | 267=>133 | 266=>148 | 314=>149 | n=>n,fun | 9=>9 | 4=>4 | 3=>3 | 5=>5 | 46=>173 | 146=>189 | 51=>188 | n=>n,fun | 1=>2 | n=>n⟩
theorem Tryz.lays220:Go.Proofs.Lays.n220 Tryz.prog Tryz.lays220_ren:=by
 repeat' first | kernel_rfl | (intro; kernel_rfl) | constructor
open Go.RowKit Go.Lib in
theorem Tryz.stringslite_Cut (s sep:ByteArray) (m:Int) (w:World) (hs:s.size < 4294967281) (hm:w.cell? ⟨2,0,none⟩=some (.int .i64 m)) :
    Calls Tryz.prog 71 #[.string s,.string sep] w fun e w'=>e=.returned (.tuple #[.string ⟨(Lib.cut s.data.toList sep.data.toList).1.toArray⟩,.string ⟨(Lib.cut s.data.toList sep.data.toList).2.1.toArray⟩,.bool (Lib.cut s.data.toList sep.data.toList).2.2])∧∃ n,w'=w.drewN n:=Any.stringslite_Cut Tryz.lays220 s sep m w hs hm
def Tryz.lays145_ren:Go.Shelf.Ren:=⟨fun | 145=>35 | 220=>71 | 219=>103 | 217=>130 | 225=>131 | 224=>132 | 267=>133 | 266=>148 | 314=>149 | n=>n,fun | 9=>9 | 4=>4 | 59=>97 | 3=>3 | 5=>5 | 46=>173 | 146=>189 | 51=>188 | n=>n,fun | 1=>2 | n=>n⟩
theorem Tryz.lays145:Go.Proofs.Lays.n145 Tryz.prog Tryz.lays145_ren:=by
 repeat' first | kernel_rfl | (intro; kernel_rfl) | constructor
open Go.RowKit Go.Lib in
theorem Tryz.strings_Cut (s sep:ByteArray) (m:Int) (w:World) (hs:s.size < 4294967281) (hm:w.cell? ⟨2,0,none⟩=some (.int .i64 m)) :
    Calls Tryz.prog 35 #[.string s,.string sep] w fun e w'=>e=.returned (.tuple #[.string ⟨(Lib.cut s.data.toList sep.data.toList).1.toArray⟩,.string ⟨(Lib.cut s.data.toList sep.data.toList).2.1.toArray⟩,.bool (Lib.cut s.data.toList sep.data.toList).2.2])∧∃ n,w'=w.drewN n:=Any.strings_Cut Tryz.lays145 s sep m w hs hm
def Tryz.lays138_ren:Go.Shelf.Ren:=⟨fun | 138=>151 | 195=>163 | 218=>165 | 143=>152 | 219=>103 | 217=>130 | 225=>131 | 224=>132 | 267=>133 | 266=>148 | 314=>149 | n=>n,fun | 9=>9 | 3=>3 | 4=>4 | 5=>5 | 0=>0 | 46=>173 | 146=>189 | 51=>188 | n=>n,fun | 1=>2 | n=>n⟩
theorem Tryz.lays138:Go.Proofs.Lays.n138 Tryz.prog Tryz.lays138_ren:=by
 repeat' first | kernel_rfl | (intro; kernel_rfl) | constructor
open Go.RowKit Go.Lib in
theorem Tryz.strings_Count_one (s:ByteArray) (c:UInt8) (w:World) :
    Calls Tryz.prog 151 #[.string s,.string ⟨#[c]⟩] w fun e w'=>e=.returned (.int .i64 (Lib.countByte s.data.toList c))∧w'=w:=Any.strings_Count_one Tryz.lays138 s c w
open Go.RowKit Go.Lib in
theorem Tryz.strings_Count (s sub:ByteArray) (m:Int) (w:World) (hs:s.size < 4294967281) (hm:w.cell? ⟨2,0,none⟩=some (.int .i64 m)) (h2:2≤sub.size) :
    Calls Tryz.prog 151 #[.string s,.string sub] w fun e w'=>e=.returned (.int .i64 (Lib.countB s sub))∧w'=w:=Any.strings_Count Tryz.lays138 s sub m w hs hm h2
def Tryz.laysM219_ren:Go.Shelf.Ren:=⟨fun | 219=>103 | 217=>130 | 225=>131 | 224=>132 | 267=>133 | 266=>148 | 314=>149 | n=>n,fun | 9=>9 | 3=>3 | 4=>4 | 5=>5 | 46=>173 | 146=>189 | 51=>188 | n=>n,fun | 1=>2 | n=>n⟩
theorem Tryz.laysM219:Go.Proofs.LaysM.n219 Tryz.prog Tryz.laysM219_ren:=by
 repeat' first | kernel_rfl | (intro; kernel_rfl) | constructor
 exact fun w h=>Go.Proofs.cell_of_shapedOpen_int (zero:=#[.int .i64 0]) (t:=3) h (of_decide_eq_true (by kernel_rfl)) (by kernel_rfl) rfl (by kernel_rfl) (by kernel_rfl) Tryz.underlying3
open Go.RowKit Go.Lib in
theorem Tryz.stringslite_Index_shaped (s sub:ByteArray) (w:World) (h:w.ShapedOpen Tryz.prog) (hs:s.size < 4294967281) :
    Calls Tryz.prog 103 #[.string s,.string sub] w fun e w'=>e=.returned (.int .i64 (Lib.index s.data.toList sub.data.toList))∧w'=w:=Any.stringslite_Index_shaped Tryz.laysM219 s sub w h hs
def Tryz.laysM143_ren:Go.Shelf.Ren:=⟨fun | 143=>152 | 219=>103 | 217=>130 | 225=>131 | 224=>132 | 267=>133 | 266=>148 | 314=>149 | n=>n,fun | 9=>9 | 3=>3 | 4=>4 | 5=>5 | 46=>173 | 146=>189 | 51=>188 | n=>n,fun | 1=>2 | n=>n⟩
theorem Tryz.laysM143:Go.Proofs.LaysM.n143 Tryz.prog Tryz.laysM143_ren:=by
 repeat' first | kernel_rfl | (intro; kernel_rfl) | constructor
 exact fun w h=>Go.Proofs.cell_of_shapedOpen_int (zero:=#[.int .i64 0]) (t:=3) h (of_decide_eq_true (by kernel_rfl)) (by kernel_rfl) rfl (by kernel_rfl) (by kernel_rfl) Tryz.underlying3
open Go.RowKit Go.Lib in
theorem Tryz.strings_Index_shaped (s sub:ByteArray) (w:World) (h:w.ShapedOpen Tryz.prog) (hs:s.size < 4294967281) :
    Calls Tryz.prog 152 #[.string s,.string sub] w fun e w'=>e=.returned (.int .i64 (Lib.index s.data.toList sub.data.toList))∧w'=w:=Any.strings_Index_shaped Tryz.laysM143 s sub w h hs
def Tryz.laysM220_ren:Go.Shelf.Ren:=⟨fun | 220=>71 | 219=>103 | 217=>130 | 225=>131 | 224=>132 | 267=>133 | 266=>148 | 314=>149 | n=>n,fun | 9=>9 | 4=>4 | 3=>3 | 5=>5 | 46=>173 | 146=>189 | 51=>188 | n=>n,fun | 1=>2 | n=>n⟩
theorem Tryz.laysM220:Go.Proofs.LaysM.n220 Tryz.prog Tryz.laysM220_ren:=by
 repeat' first | kernel_rfl | (intro; kernel_rfl) | constructor
 exact fun w h=>Go.Proofs.cell_of_shapedOpen_int (zero:=#[.int .i64 0]) (t:=3) h (of_decide_eq_true (by kernel_rfl)) (by kernel_rfl) rfl (by kernel_rfl) (by kernel_rfl) Tryz.underlying3
open Go.RowKit Go.Lib in
theorem Tryz.stringslite_Cut_shaped (s sep:ByteArray) (w:World) (h:w.ShapedOpen Tryz.prog) (hs:s.size < 4294967281) :
    Calls Tryz.prog 71 #[.string s,.string sep] w fun e w'=>e=.returned (.tuple #[.string ⟨(Lib.cut s.data.toList sep.data.toList).1.toArray⟩,.string ⟨(Lib.cut s.data.toList sep.data.toList).2.1.toArray⟩,.bool (Lib.cut s.data.toList sep.data.toList).2.2])∧∃ n,w'=w.drewN n:=Any.stringslite_Cut_shaped Tryz.laysM220 s sep w h hs
def Tryz.laysM145_ren:Go.Shelf.Ren:=⟨fun | 145=>35 | 220=>71 | 219=>103 | 217=>130 | 225=>131 | 224=>132 | 267=>133 | 266=>148 | 314=>149 | n=>n,fun | 9=>9 | 4=>4 | 59=>97 | 3=>3 | 5=>5 | 46=>173 | 146=>189 | 51=>188 | n=>n,fun | 1=>2 | n=>n⟩
theorem Tryz.laysM145:Go.Proofs.LaysM.n145 Tryz.prog Tryz.laysM145_ren:=by
 repeat' first | kernel_rfl | (intro; kernel_rfl) | constructor
 exact fun w h=>Go.Proofs.cell_of_shapedOpen_int (zero:=#[.int .i64 0]) (t:=3) h (of_decide_eq_true (by kernel_rfl)) (by kernel_rfl) rfl (by kernel_rfl) (by kernel_rfl) Tryz.underlying3
open Go.RowKit Go.Lib in
theorem Tryz.strings_Cut_shaped (s sep:ByteArray) (w:World) (h:w.ShapedOpen Tryz.prog) (hs:s.size < 4294967281) :
    Calls Tryz.prog 35 #[.string s,.string sep] w fun e w'=>e=.returned (.tuple #[.string ⟨(Lib.cut s.data.toList sep.data.toList).1.toArray⟩,.string ⟨(Lib.cut s.data.toList sep.data.toList).2.1.toArray⟩,.bool (Lib.cut s.data.toList sep.data.toList).2.2])∧∃ n,w'=w.drewN n:=Any.strings_Cut_shaped Tryz.laysM145 s sep w h hs
def Tryz.laysM138_ren:Go.Shelf.Ren:=⟨fun | 138=>151 | 195=>163 | 218=>165 | 143=>152 | 219=>103 | 217=>130 | 225=>131 | 224=>132 | 267=>133 | 266=>148 | 314=>149 | n=>n,fun | 9=>9 | 3=>3 | 4=>4 | 5=>5 | 0=>0 | 46=>173 | 146=>189 | 51=>188 | n=>n,fun | 1=>2 | n=>n⟩
theorem Tryz.laysM138:Go.Proofs.LaysM.n138 Tryz.prog Tryz.laysM138_ren:=by
 repeat' first | kernel_rfl | (intro; kernel_rfl) | constructor
 exact fun w h=>Go.Proofs.cell_of_shapedOpen_int (zero:=#[.int .i64 0]) (t:=3) h (of_decide_eq_true (by kernel_rfl)) (by kernel_rfl) rfl (by kernel_rfl) (by kernel_rfl) Tryz.underlying3
open Go.RowKit Go.Lib in
theorem Tryz.strings_Count_shaped (s sub:ByteArray) (w:World) (h:w.ShapedOpen Tryz.prog) (hs:s.size < 4294967281) (h2:2≤sub.size) :
    Calls Tryz.prog 151 #[.string s,.string sub] w fun e w'=>e=.returned (.int .i64 (Lib.countB s sub))∧w'=w:=Any.strings_Count_shaped Tryz.laysM138 s sub w h hs h2
def Tryz.lays206_ren:Go.Shelf.Ren:=⟨fun | 206=>171 | n=>n,fun | 9=>9 | 4=>4 | 3=>3 | n=>n,fun | n=>n⟩
theorem Tryz.lays206:Go.Proofs.Lays.n206 Tryz.prog Tryz.lays206_ren:=by
 repeat' first | kernel_rfl | (intro; kernel_rfl) | constructor
open Go.RowKit Go.Lib in
theorem Tryz.stringslite_HasPrefix (s p:ByteArray) (w:World) :
    Calls Tryz.prog 171 #[.string s,.string p] w fun e w'=>e=.returned (.bool (Lib.hasPrefix s.data.toList p.data.toList))∧w'=w:=Any.stringslite_HasPrefix Tryz.lays206 s p w
def Tryz.lays208_ren:Go.Shelf.Ren:=⟨fun | 208=>155 | 206=>171 | n=>n,fun | 9=>9 | 4=>4 | 3=>3 | n=>n,fun | n=>n⟩
theorem Tryz.lays208:Go.Proofs.Lays.n208 Tryz.prog Tryz.lays208_ren:=by
 repeat' first | kernel_rfl | (intro; kernel_rfl) | constructor
open Go.RowKit Go.Lib in
theorem Tryz.stringslite_TrimPrefix (s p:ByteArray) (w:World) :
    Calls Tryz.prog 155 #[.string s,.string p] w fun e w'=>e=.returned (.string ⟨(Lib.trimPrefix s.data.toList p.data.toList).toArray⟩)∧w'=w:=Any.stringslite_TrimPrefix Tryz.lays208 s p w
def Tryz.lays101_ren:Go.Shelf.Ren:=⟨fun | 101=>139 | 208=>155 | 206=>171 | n=>n,fun | 9=>9 | 4=>4 | 3=>3 | n=>n,fun | n=>n⟩
theorem Tryz.lays101:Go.Proofs.Lays.n101 Tryz.prog Tryz.lays101_ren:=by
 repeat' first | kernel_rfl | (intro; kernel_rfl) | constructor
open Go.RowKit Go.Lib in
theorem Tryz.strings_TrimPrefix (s p:ByteArray) (w:World) :
    Calls Tryz.prog 139 #[.string s,.string p] w fun e w'=>e=.returned (.string ⟨(Lib.trimPrefix s.data.toList p.data.toList).toArray⟩)∧w'=w:=Any.strings_TrimPrefix Tryz.lays101 s p w
open Go.RowKit Go.Lib in
theorem Tryz.strings_Count_any (s sep:ByteArray) (m:Int) (w:World) (hs:s.size < 4294967281) (hm:w.cell? ⟨2,0,none⟩=some (.int .i64 m)) (h1:1≤sep.size) :
    Calls Tryz.prog 151 #[.string s,.string sep] w fun e w'=>e=.returned (.int .i64 (Lib.countB s sep))∧w'=w:=Any.strings_Count_any Tryz.lays138 s sep m w hs hm h1
def Tryz.lays221_ren:Go.Shelf.Ren:=⟨fun | 221=>134 | 268=>150 | 138=>151 | 143=>152 | 195=>163 | 197=>164 | 218=>165 | 219=>103 | 260=>177 | 217=>130 | 225=>131 | 224=>132 | 267=>133 | 266=>148 | 314=>149 | n=>n,fun | 9=>9 | 3=>3 | 31=>59 | 4=>4 | 0=>0 | 105=>200 | 21=>21 | 5=>5 | 46=>173 | 119=>219 | 139=>222 | 138=>221 | 146=>189 | 51=>188 | n=>n,fun | 1=>2 | 3=>6 | 4=>7 | n=>n⟩
theorem Tryz.lays221:Go.Proofs.Lays.n221 Tryz.prog Tryz.lays221_ren:=by
 repeat' first | kernel_rfl | (intro; kernel_rfl) | constructor
open Go.RowKit Go.Lib in
theorem Tryz.strings_genSplit (s sep:ByteArray) (sv:Nat) (n:Int) (N:Nat) (m:Int) (w:World) (hs:s.size < 4294967281) (hm:w.cell? ⟨2,0,none⟩=some (.int .i64 m)) (h1:1≤sep.size) (hsv:sv≤sep.size) (hn0:n≠0) (hn63:n≤9223372036854775807) (hN:(N:Int)=min (if n < 0 then (Lib.countB s sep:Int)+1 else n) ((s.size:Int)+1)) :
    Calls Tryz.prog 134 #[.string s,.string sep,.int .i64 sv,.int .i64 n] w fun e w'=>
      e=.returned (.slice (some ⟨w.heap.size,0,none⟩) (Lib.splitB sep sv (N - 1) s).length N)∧w'=w.alloc (.cells (Lib.cellsOf (Lib.splitB sep sv (N - 1) s) N) 9):=Any.strings_genSplit Tryz.lays221 (by kernel_rfl) s sep sv n N m w hs hm h1 hsv hn0 hn63 hN
def Tryz.lays146_ren:Go.Shelf.Ren:=⟨fun | 146=>104 | 221=>134 | 268=>150 | 138=>151 | 143=>152 | 195=>163 | 197=>164 | 218=>165 | 219=>103 | 260=>177 | 217=>130 | 225=>131 | 224=>132 | 267=>133 | 266=>148 | 314=>149 | n=>n,fun | 9=>9 | 31=>59 | 3=>3 | 4=>4 | 0=>0 | 105=>200 | 21=>21 | 5=>5 | 46=>173 | 119=>219 | 139=>222 | 138=>221 | 146=>189 | 51=>188 | n=>n,fun | 1=>2 | 3=>6 | 4=>7 | n=>n⟩
theorem Tryz.lays146:Go.Proofs.Lays.n146 Tryz.prog Tryz.lays146_ren:=by
 repeat' first | kernel_rfl | (intro; kernel_rfl) | constructor
open Go.RowKit Go.Lib in
theorem Tryz.strings_Split (s sep:ByteArray) (m:Int) (w:World) (hs:s.size < 4294967281) (hm:w.cell? ⟨2,0,none⟩=some (.int .i64 m)) (h1:1≤sep.size) :
    Calls Tryz.prog 104 #[.string s,.string sep] w fun e w'=>
      e=.returned (.slice (some ⟨w.heap.size,0,none⟩) (Lib.countB s sep+1) (Lib.countB s sep+1))∧w'=w.alloc (.cells ((Lib.splitB sep 0 (Lib.countB s sep) s).map Value.string).toArray 9):=Any.strings_Split Tryz.lays146 (by kernel_rfl) s sep m w hs hm h1
def Tryz.laysM146_ren:Go.Shelf.Ren:=⟨fun | 146=>104 | 221=>134 | 268=>150 | 138=>151 | 143=>152 | 195=>163 | 197=>164 | 218=>165 | 219=>103 | 260=>177 | 217=>130 | 225=>131 | 224=>132 | 267=>133 | 266=>148 | 314=>149 | n=>n,fun | 9=>9 | 31=>59 | 3=>3 | 4=>4 | 0=>0 | 105=>200 | 21=>21 | 5=>5 | 46=>173 | 119=>219 | 139=>222 | 138=>221 | 146=>189 | 51=>188 | n=>n,fun | 1=>2 | 3=>6 | 4=>7 | n=>n⟩
theorem Tryz.laysM146:Go.Proofs.LaysM.n146 Tryz.prog Tryz.laysM146_ren:=by
 repeat' first | kernel_rfl | (intro; kernel_rfl) | constructor
 exact fun w h=>Go.Proofs.cell_of_shapedOpen_int (zero:=#[.int .i64 0]) (t:=3) h (of_decide_eq_true (by kernel_rfl)) (by kernel_rfl) rfl (by kernel_rfl) (by kernel_rfl) Tryz.underlying3
open Go.RowKit Go.Lib in
theorem Tryz.strings_Split_shaped (s sep:ByteArray) (w:World) (h:w.ShapedOpen Tryz.prog) (hs:s.size < 4294967281) (h1:1≤sep.size) :
    Calls Tryz.prog 104 #[.string s,.string sep] w fun e w'=>
      e=.returned (.slice (some ⟨w.heap.size,0,none⟩) (Lib.countB s sep+1) (Lib.countB s sep+1))∧w'=w.alloc (.cells ((Lib.splitB sep 0 (Lib.countB s sep) s).map Value.string).toArray 9):=Any.strings_Split_shaped Tryz.laysM146 s sep w h hs h1
def Tryz.lays260_ren:Go.Shelf.Ren:=⟨fun | 260=>177 | n=>n,fun | 9=>9 | 21=>21 | 3=>3 | 4=>4 | 5=>5 | 119=>219 | 0=>0 | 46=>173 | 139=>222 | 138=>221 | n=>n,fun | 3=>6 | 4=>7 | n=>n⟩
theorem Tryz.lays260:Go.Proofs.Lays.n260 Tryz.prog Tryz.lays260_ren:=by
 repeat' first | kernel_rfl | (intro; kernel_rfl) | constructor
open Go.RowKit Go.Lib in
theorem Tryz.utf8_decodeRuneInStringSlow (s:ByteArray) (w:World) (hT:Lib.Utf8Tabs 6 7 w) :
    Calls Tryz.prog 177 #[.string s] w fun e w'=>e=.returned (.tuple #[.int .i32 (Lib.decodeGo s).1,.int .i64 (Lib.decodeGo s).2])∧Below w.heap.size w w':=Any.utf8_decodeRuneInStringSlow Tryz.lays260 s w hT
end Go.Proofs
namespace Go.Proofs.YtheidkkebdhmkaaGreatDoor
open Go.RowKit Go.Lib Go.Sort
set_option linter.unusedVariables false
set_option linter.unusedSimpArgs false
set_option maxHeartbeats 2000000 in
set_option maxRecDepth 100000 in
theorem jYi (u:Nat) (h1:1≤u) (h2:u < 18446744073709551616) (w:World) (hc:∀ i:Nat,i < 20→w.cell? ⟨3,i,none⟩=some (.int .u64 ((10 ^ i:Nat):Int))) :
  Calls Tryz.prog 160 #[.int .u64 u] w fun e w'=>e=.returned (.int .i64 (nDigits u))∧w'=w:=by
 obtain ⟨hs,h19⟩:=numDigits_eq u h1 h2
 have hL:Lib.bitLen u≤64:=Lib.bitLen_le u 64 (Nat.le_refl _) h2
 have hto:((u:Int)).toNat=u:=by omega
 obtain ⟨q,hq⟩:∃ q,l10 (Lib.bitLen u)=q:=⟨_,rfl⟩
 rw [hq] at hs h19
 have hcell:=hc q (by omega)
 obtain ⟨T,hT⟩:∃ T,10 ^ q=T:=⟨_,rfl⟩
 rw [hT] at hs hcell
 have H:=hid hs
 have HQ:=hid hq
 clear hs hc hq hT
 go_enter Tryz.func160,Tryz.ntmps160
 go_wp2_with (first
  |(go_at_call 173; refine (Tryz.bits_Len64 _ _ (by omega) (by omega)).mono ?_; rintro e w' ⟨rfl,rfl⟩; rw [hto])
  |(go_at_call 172; refine (Tryz.internal_strconv_log10Pow2 _ hL _).mono ?_; rintro e w' ⟨rfl,rfl⟩; rw [HQ.out])
  |(go_at_call 174; refine (Tryz.internal_strconv_bool2_int _ _).mono ?_; rintro e w' ⟨rfl,rfl⟩))
 all_goals go_ret
 all_goals
  refine ⟨?_,rfl⟩
  have e:=H.out
  congr 2
  split at e <;> simp_all <;> omega
theorem jJZ (w:World) (q:Nat) (os:Array Obj):RowKit.Below w.heap.size w (grow (w.drewN q) os):=
 ⟨rfl,rfl,rfl,by show _≤(w.heap++os).size; rw [Array.size_append]; omega,fun k hk=>Array.getElem?_append_left hk⟩
abbrev u8v:UInt8→Value:=fun b=>Value.int .u8 (b.toNat:Int)
abbrev AT:TypeId:=194
theorem jK7 (u:Nat) (hu:u < 18446744073709551616) (hn:nDigits u≤20) (w:World) :
  Calls Tryz.prog 161 #[.slice (some ⟨w.heap.size,1,none⟩) (nDigits u) 23,.int .u64 u] (w.alloc (.cells zeros24 AT)) fun e w'=>
   e=.returned (.tuple #[])∧(∀ j (hj:j < (decDigits u).length),w'.cell? ⟨w.heap.size,1+j,none⟩=some (u8v (decDigits u)[j]))∧w'.cell? ⟨w.heap.size,0,none⟩=some (.int .u8 0)∧w'.frozen? ⟨w.heap.size,0,none⟩=false∧Below w.heap.size w w':=by
 have hH:=holds_zero w AT (nDigits u) (by omega)
 have h:=Tryz.internal_strconv_formatBase10 w.heap.size 1 23 u (Array.replicate (nDigits u) 0) (w.alloc (.cells zeros24 AT)) hH (by rw [Array.size_replicate]; exact lt_pow_nDigits u) hu (by rw [Array.size_replicate]; omega)
 rw [Array.size_replicate] at h
 refine h.mono ?_
 rintro e w' ⟨rfl,k,v',dk,rfl,hF⟩
 have hsz:dk.size=nDigits u:=hF.size
 refine ⟨rfl,fun j hj=>?_,?_,?_,?_⟩
 ·have hj':j < nDigits u:=by rwa [decDigits_length] at hj
  rw [row_is_numeral hF j hj,World.cell?_drewN]
  exact cell?_putRow u8v _ w.heap.size 1 _ dk hH (by rw [hsz,Array.size_replicate]) j (by omega)
 ·rw [World.cell?_drewN,cell?_putRow_other _ _ _ _ _ _ (Or.inr (Or.inl (Nat.zero_lt_one))),World.cell?_alloc_new]
  exact zeros24_at 0 (by omega)
 ·rw [World.frozen?_drewN,frozen?_putRow]
  exact World.frozen?_alloc_new _ _ _ _
 ·obtain ⟨os,eo⟩:=fin_pos w (.cells zeros24 AT) dk k
  rw [eo]
  exact jJZ w k os
theorem jYx (W:World) (g off cap:Nat) (l:List UInt8) (hc:∀ j (hj:j < l.length),W.cell? ⟨g,off+j,none⟩=some (u8v l[j])) :
  (convert 80 9 (.slice (some ⟨g,off,none⟩) l.length cap)).run Tryz.prog W=.ok (.string ⟨l.toArray⟩) W:=
 run_convert_bytes_back (P:=Tryz.prog) W 80 9 5 ⟨g,off,none⟩ cap l Tryz.underlying80 Tryz.underlying5 Tryz.underlying9 fun j hj=>by rw [add_plain]; exact hc j hj
set_option maxHeartbeats 6400000 in
set_option maxRecDepth 100000 in
theorem jYg (n:Int) (h0 : -9223372036854775808≤n) (h1:n≤9223372036854775807) (w:World)
  (hc:∀ i:Nat,i < 20→w.cell? ⟨3,i,none⟩=some (.int .u64 ((10 ^ i:Nat):Int))) (hg:3 < w.heap.size) :
  Calls Tryz.prog 145 #[.int .i64 n,.int .i64 10] w fun e w'=>e=.returned (.string ⟨(itoa n).toArray⟩)∧Below w.heap.size w w':=by
 by_cases hs:0≤n∧n < 100
 ·obtain ⟨i,rfl⟩:∃ i:Nat,n=i:=⟨n.toNat,by omega⟩
  have hi:i < 100:=by omega
  clear hc
  go_enter Tryz.func145,Tryz.ntmps145
  go_wp2_with (go_at_call 159; refine (Tryz.internal_strconv_small i hi _).mono ?_; rintro e w' ⟨rfl,rfl⟩)
  go_ret
  refine ⟨?_,Below.refl _ _⟩
  rw [itoa_nonneg]
  rfl
 ·obtain ⟨u,hu⟩:∃ u:Nat,u=n.natAbs:=⟨_,rfl⟩
  have hu1:1≤u:=by omega
  have hu64:u < 18446744073709551616:=by omega
  have hnd20:nDigits u≤20:=by have:=numDigits_eq u hu1 hu64; split at this <;> omega
  have hc':∀ i:Nat,i < 20→(w.alloc (.cells zeros24 AT)).cell? ⟨3,i,none⟩=some (.int .u64 ((10 ^ i:Nat):Int)):=fun i hi=>by
   rw [World.cell?_of_block (a:=⟨3,i,none⟩) (Below.heap_alloc w _ _ hg)]
   exact hc i hi
  have hdig:=jYi u hu1 hu64 (w.alloc (.cells zeros24 AT)) hc'
  have hfill:=jK7 u hu64 hnd20 w
  have hal:Tryz.prog.arrayLen AT=24:=by simp [Program.arrayLen,Tryz.underlying194]
  have hsl1:∀ W,(Instr.sliceAt AT (.pointer (some ⟨w.heap.size,0,none⟩)) (some (.int .i64 1)) (some (.int .i64 (1+(nDigits u:Int)))) none).run Tryz.prog W=.ok (.slice (some ⟨w.heap.size,1,none⟩) (nDigits u) 23) W:=fun W=>by
   rw [run_sliceAt_array_lh W AT ⟨w.heap.size,0,none⟩ (by simp [Program.arrayLen,Program.elem,Tryz.underlying194]) .i64 .i64 1 (1+(nDigits u:Int)) (by omega) (by omega) (by rw [hal]; omega)]
   go_simp
   omega
  have hsl2:∀ W,(Instr.sliceAt AT (.pointer (some ⟨w.heap.size,0,none⟩)) none (some (.int .i64 (1+(nDigits u:Int)))) none).run Tryz.prog W=.ok (.slice (some ⟨w.heap.size,0,none⟩) (1+nDigits u) 24) W:=fun W=>by
   rw [run_sliceAt_array_h W AT ⟨w.heap.size,0,none⟩ (by simp [Program.arrayLen,Program.elem,Tryz.underlying194]) .i64 (1+(nDigits u:Int)) (by omega) (by rw [hal]; omega)]
   go_simp
   omega
  clear hc hc' hal
  by_cases hneg:n < 0
  ·obtain rfl:n = -(u:Int):=by omega
   clear hu
   have hwr:IntKind.u64.wrap (-IntKind.u64.wrap (-(u:Int)))=(u:Int):=by rw [IntKind.wrap_u64,IntKind.wrap_u64]; omega
   go_enter Tryz.func145,Tryz.ntmps145
   go_wp2_with (go_at_call 160; refine hdig.mono ?_; rintro e w' ⟨rfl,rfl⟩)
   go_at_call 161
   refine hfill.mono ?_
   rintro e W ⟨rfl,hrow,hz,hf,hb⟩
   have hcv:=jYx (W.setCell ⟨w.heap.size,0,none⟩ (.int .u8 45)) w.heap.size 0 24 (45::decDigits u) fun j hj=>by
    cases j with
    | zero=>exact World.cell?_setCell_same _ _ _ hz
    | succ i=>
     have hi:i < (decDigits u).length:=by simpa using hj
     rw [World.cell?_setCell_other _ _ _ _ (by simp),List.getElem_cons_succ,← hrow i hi]
     congr 2
     omega
   rw [List.length_cons,decDigits_length,Nat.add_comm] at hcv
   clear hrow
   go_wp2
   go_ret
   refine ⟨?_,hb.setCell (Nat.le_refl _) _⟩
   rw [itoa_neg u hu1]
   rfl
  ·obtain rfl:n=(u:Int):=by omega
   clear hu
   go_enter Tryz.func145,Tryz.ntmps145
   go_wp2_with (go_at_call 160; refine hdig.mono ?_; rintro e w' ⟨rfl,rfl⟩)
   go_at_call 161
   refine hfill.mono ?_
   rintro e W ⟨rfl,hrow,hz,hf,hb⟩
   have hcv:=jYx W w.heap.size 1 23 (decDigits u) hrow
   rw [decDigits_length] at hcv
   clear hrow
   go_wp2
   go_ret
   refine ⟨?_,hb⟩
   rw [itoa_nonneg]
   rfl
set_option maxRecDepth 100000 in
theorem jZ3 (n:Int) (h0 : -9223372036854775808≤n) (h1:n≤9223372036854775807) (w:World)
  (hc:∀ i:Nat,i < 20→w.cell? ⟨3,i,none⟩=some (.int .u64 ((10 ^ i:Nat):Int))) (hg:3 < w.heap.size) :
  Calls Tryz.prog 97 #[.int .i64 n] w fun e w'=>e=.returned (.string ⟨(itoa n).toArray⟩)∧Below w.heap.size w w':=by
 have hf:=jYg n h0 h1 w hc hg
 clear hc hg
 have hi:Calls Tryz.prog 123 #[.int .i64 n] w fun e w'=>e=.returned (.string ⟨(itoa n).toArray⟩)∧Below w.heap.size w w':=by
  go_enter Tryz.func123,Tryz.ntmps123
  go_wp2_with (go_at_call 145; refine hf.mono ?_; rintro e w' ⟨rfl,hb⟩)
  go_ret
  exact ⟨rfl,hb⟩
 clear hf
 go_enter Tryz.func97,Tryz.ntmps97
 go_wp2_with (go_at_call 123; refine hi.mono ?_; rintro e w' ⟨rfl,hb⟩)
 go_ret
 exact ⟨rfl,hb⟩
theorem jJb {w:World} {V:Nat→Prop} (h:zXK w V):(∀ i:Nat,i < 20→w.cell? ⟨3,i,none⟩=some (.int .u64 ((10 ^ i:Nat):Int)))∧3 < w.heap.size:=by
 obtain ⟨_,hc⟩:=h.1 (3,zXf) (by simp [zKF]) (by simp [zXf])
 have key:∀ i:Nat,i < 20→w.cell? ⟨3,i,none⟩=some (.int .u64 ((10 ^ i:Nat):Int)):=fun i hi=>by
  have hd:zXf[i]?=some (DV.int .u64 ((10 ^ i:Nat):Int)):=by
   have:i=0∨i=1∨i=2∨i=3∨i=4∨i=5∨i=6∨i=7∨i=8∨i=9∨i=10∨i=11∨i=12∨i=13∨i=14∨i=15∨i=16∨i=17∨i=18∨i=19:=by omega
   rcases this with rfl | rfl | rfl | rfl | rfl | rfl | rfl | rfl | rfl | rfl | rfl | rfl | rfl | rfl | rfl | rfl | rfl | rfl | rfl | rfl <;> rfl
  obtain ⟨u,hu,hr⟩:=hc.at_ i _ hd
  simp only [RepD] at hr
  rw [Nat.zero_add] at hu
  rw [hu,hr.1]
 refine ⟨key,?_⟩
 have:=key 0 (by omega)
 simp only [World.cell?] at this
 split at this
 ·rename_i h0
  exact (Array.getElem?_eq_some_iff.1 h0).1
 ·cases this
theorem jWs (n:Int):Ans Tryz.prog 97 [RV.d (DV.int .i64 n)] (RV.d (DV.str (toS (itoa n)))):=by
 intro w S vs hG hR
 obtain ⟨vs⟩:=vs
 match vs,hR with
 | [v],hR=>
  simp only [RepRs,RepR,RepD,and_true] at hR
  obtain ⟨rfl,hi⟩:=hR
  have hi:=(zXB _ _).1 hi
  simp only [IntKind.min,IntKind.max,IntKind.signed,IntKind.bits] at hi
  have hb : -9223372036854775808≤n∧n≤9223372036854775807:=by simpa using hi
  obtain ⟨hc,hg⟩:=jJb hG
  refine (jZ3 n hb.1 hb.2 w hc hg).mono fun e w' h=>?_
  obtain ⟨rfl,h⟩:=h
  refine ⟨_,rfl,?_,h⟩
  simp only [RepR,RepD]
  refine ⟨rfl,?_⟩
  have:=jQX n hb
  rw [zZe]
  unfold maxLen
  omega
theorem idx1 (c:UInt8):∀ l:Lb,(index l [c] = -1∧c ∉ l)∨∃ a b,l=a++c::b∧c ∉ a∧index l [c]=(a.length:Int)
 | []=>.inl ⟨rfl,by simp⟩
 | x::l=>by
  unfold index
  by_cases h:c=x
  ·subst h
   exact .inr ⟨[],l,rfl,by simp,by simp [List.isPrefixOf]⟩
  ·have hp:[c].isPrefixOf (x::l)=false:=by simp [List.isPrefixOf,h]
   rw [hp]
   rcases idx1 c l with ⟨h1,h2⟩ | ⟨a,b,rfl,h2,h3⟩
   ·exact .inl ⟨by simp [h1],by simp [h,h2]⟩
   ·refine .inr ⟨x::a,b,rfl,by simp [h,h2],?_⟩
    rw [h3]
    have:((a.length:Int) == -1)=false:=by rw [beq_eq_false_iff_ne]; omega
    simp [this]
theorem jZt {l:Lb} (h:(32:UInt8) ∉ l):zQp l=[l]:=by
 induction l with
 | nil=>rfl
 | cons c l ih=>
  simp only [List.mem_cons,not_or] at h
  rw [zQp,if_neg (fun e=>h.1 e.symm),ih h.2]
  rfl
theorem jZv {a b:Lb} (h:(32:UInt8) ∉ a):zQp (a++32::b)=a::zQp b:=by
 induction a with
 | nil=>simp [zQp]
 | cons c a ih=>
  simp only [List.mem_cons,not_or] at h
  rw [List.cons_append,zQp,if_neg (fun e=>h.1 e.symm),ih h.2]
  rfl
theorem zW4:∀ (n:Nat) (l:Lb),l.length≤n→∀ w∈zQp l,w.length≤l.length:=by
 intro n
 induction n with
 | zero=>
  intro l hl w hw
  have:l=[]:=by simpa using hl
  subst this
  simp [zQp] at hw
  simp [hw]
 | succ n ih=>
  intro l hl w hw
  rcases idx1 32 l with ⟨_,h⟩ | ⟨a,b,rfl,h,_⟩
  ·rw [jZt h] at hw; simp at hw; simp [hw]
  ·rw [jZv h] at hw
   rcases List.mem_cons.1 hw with rfl | hw
   ·simp
   ·have:=ih b (by simp at hl; omega) w hw
    simp; omega
theorem jVw:∀ (n:Nat) (s:ByteArray),s.size≤n→(splitB ⟨#[32]⟩ 0 (countB s ⟨#[32]⟩) s).map (·.data.toList)=zQp s.data.toList:=by
 intro n
 induction n with
 | zero=>
  intro s hs
  have hl:s.data.toList=[]:=by
   have:=size_eq s
   cases h:s.data.toList with
   | nil=>rfl
   | cons a b=>rw [h] at this; simp at this; omega
  rcases idx1 32 s.data.toList with ⟨h1,h2⟩ | ⟨a,b,h,_⟩
  ·rw [splitB_miss _ _ _ _ h1,hl]; simp [hl,zQp]
  ·rw [hl] at h; simp at h
 | succ n ih=>
  intro s hs
  rcases idx1 32 s.data.toList with ⟨h1,h2⟩ | ⟨a,b,h,h2,h3⟩
  ·rw [splitB_miss _ _ _ _ h1,jZt h2]; rfl
  ·have h3':indexB s ⟨#[32]⟩=(a.length:Int):=h3
   have hx:(s.extract (a.length+1) s.size).data.toList=b:=by
    rw [show s=toS (a++32::b) from by rw [← h]; exact (zVI s).symm,zZe,jUN,zWG]
    simp
    exact List.take_of_length_le (by omega)
   have h0:(s.extract 0 (a.length+0)).data.toList=a:=by
    rw [extract_from_zero,h]; simp
   have hsz:(s.extract (a.length+1) s.size).size≤n:=by
    rw [size_eq,hx]
    have:=size_eq s
    rw [h] at this
    simp at this; omega
   have hc:countB s ⟨#[32]⟩=countB (s.extract (a.length+1) s.size) ⟨#[32]⟩+1:=by
    rw [countB_hit s ⟨#[32]⟩ a.length (by decide) h3',Nat.add_comm]
    rfl
   rw [hc,splitB_hit _ _ _ _ _ h3',List.map_cons,h0,h,jZv h2]
   congr 1
   have:=ih _ hsz
   rw [hx] at this
   exact this
theorem jJc {w:World} {V:Nat→Prop} (h:zXK w V):∃ m,w.cell? ⟨2,0,none⟩=some (.int .i64 m):=(h.2.2 2 (by simp [zK6])).2
theorem jXr (l:Lb) (hl:l.length < 4294967281):Ans Tryz.prog 104 [RV.d (DV.str (toS l)),RV.d (DV.str (⟨#[32]⟩:ByteArray))] (RV.d (DV.sl (zQp l).length (strs (zQp l)))):=by
 intro w S vs hG hR
 obtain ⟨vs⟩:=vs
 match vs,hR with
 | [v,v2],hR=>
  simp only [RepRs,RepR,RepD,and_true] at hR
  obtain ⟨⟨rfl,hsz⟩,rfl,_⟩:=hR
  obtain ⟨m,hm⟩:=jJc hG
  refine (Tryz.strings_Split (toS l) ⟨#[32]⟩ m w (by rw [zZe]; exact hl) hm (by decide)).mono fun e w' h=>?_
  obtain ⟨rfl,rfl⟩:=h
  have hs:=jVw (toS l).size (toS l) (Nat.le_refl _)
  rw [zWG] at hs
  generalize hX:splitB ⟨#[32]⟩ 0 (countB (toS l) ⟨#[32]⟩) (toS l)=X at hs
  have hn:countB (toS l) ⟨#[32]⟩+1=(zQp l).length:=by rw [← hs,← hX,List.length_map,splitB_all _ (by decide) _ _ _ rfl]
  have hXs:X.map Value.string=(zQp l).map fun w=>Value.string (toS w):=by
   rw [← hs,List.map_map]
   refine List.map_congr_left fun x _=>?_
   show Value.string x=Value.string (toS x.data.toList)
   rw [show toS x.data.toList=x from zVI x]
  refine ⟨_,rfl,?_,Below.alloc (Below.refl _ _) (Nat.le_refl _) _⟩
  simp only [RepR,RepD]
  rw [hn]
  have hlen:=zW5 l
  refine ⟨_,_,rfl,Nat.le_refl _,by unfold maxLen; omega,fun _=>⟨_,_,rfl,.inr (Nat.le_refl _),RepCells.of_at fun i d hi=>?_⟩⟩
  rw [Nat.zero_add]
  have hi':i < (zQp l).length:=by have:=(List.getElem?_eq_some_iff.1 hi).1; rwa [zXe] at this
  rw [(jQu hi').1] at hi
  cases hi
  refine ⟨.string (toS (zQp l)[i]),?_,?_⟩
  ·rw [hXs,World.cell?_alloc_new]
   simp [hi']
  ·simp only [RepD]
   refine ⟨trivial,?_⟩
   have:=zW4 _ l (Nat.le_refl _) _ (List.getElem_mem hi')
   rw [zZe]
   unfold maxLen
   omega
def cutL (l:Lb):Lb × Lb × Bool:=Lib.cut l [10]
theorem jVg {l:Lb} (h:(10:UInt8) ∉ l):cutL l=(l,[],false):=by
 unfold cutL Lib.cut
 rcases idx1 10 l with ⟨h1,_⟩ | ⟨a,b,rfl,_⟩
 ·rw [if_neg (by omega)]
 ·exact absurd (by simp) h
theorem jVh {a b:Lb} (h:(10:UInt8) ∉ a):cutL (a++10::b)=(a,b,true):=by
 unfold cutL Lib.cut
 rcases idx1 10 (a++10::b) with ⟨_,h2⟩ | ⟨a',b',h1,h2,h3⟩
 ·exact absurd (by simp) h2
 ·have hu:a=a'∧b=b':=by
   clear h3
   induction a generalizing a' with
   | nil=>
    cases a' with
    | nil=>simpa using h1
    | cons x a'=>simp at h1; exact absurd h1.1 (by simp at h2; exact h2.1)
   | cons y a ih=>
    cases a' with
    | nil=>simp at h1; exact absurd h1.1.symm (by simp at h; exact h.1)
    | cons x a'=>
     simp only [List.cons_append,List.cons.injEq] at h1
     simp only [List.mem_cons,not_or] at h h2
     obtain ⟨h4,h5⟩:=ih h.2 a' h1.2 h2.2
     exact ⟨by rw [h1.1,h4],h5⟩
  obtain ⟨rfl,rfl⟩:=hu
  rw [h3,if_pos (by omega),Int.toNat_natCast]
  simp
theorem jJo (l:Lb):(cutL l).1.length≤l.length∧(cutL l).2.1.length≤l.length:=by
 rcases idx1 10 l with ⟨_,h⟩ | ⟨a,b,rfl,h,_⟩
 ·rw [jVg h]; simp
 ·rw [jVh h]; simp; omega
theorem jUU (l:Lb) (hl:l.length < 4294967281):Ans Tryz.prog 35 [RV.d (DV.str (toS l)),RV.d (DV.str (⟨#[10]⟩:ByteArray))] (RV.tup [RV.d (DV.str (toS (cutL l).1)),RV.d (DV.str (toS (cutL l).2.1)),RV.d (DV.bool (cutL l).2.2)]):=by
 intro w S vs hG hR
 obtain ⟨vs⟩:=vs
 match vs,hR with
 | [v,v2],hR=>
  simp only [RepRs,RepR,RepD,and_true] at hR
  obtain ⟨⟨rfl,hsz⟩,rfl,_⟩:=hR
  obtain ⟨m,hm⟩:=jJc hG
  refine (Tryz.strings_Cut (toS l) ⟨#[10]⟩ m w (by rw [zZe]; exact hl) hm).mono fun e w' h=>?_
  obtain ⟨rfl,n,rfl⟩:=h
  refine ⟨_,rfl,?_,⟨rfl,rfl,rfl,Nat.le_refl _,fun _ _=>rfl⟩⟩
  obtain ⟨h1,h2⟩:=jJo l
  simp only [RepR]
  refine ⟨_,rfl,?_⟩
  simp only [RepRs,RepR,RepD,and_true]
  refine ⟨⟨rfl,?_⟩,⟨rfl,?_⟩,rfl⟩
  ·rw [zZe]; unfold maxLen; omega
  ·rw [zZe]; unfold maxLen; omega
def zV0 (w:Lb):Int:=match atoiAll w with
 | .ok v=>v
 | .range=>atoiSat w
 | _=>0
def numP (w:Lb):Int × Bool:=(zV0 w,zY6 w)
theorem jJ7 (l:Lb):trimPrefix l [45]=unsg l:=by
 cases l with
 | nil=>rfl
 | cons c l=>
  unfold trimPrefix hasPrefix unsg
  by_cases h:c=45
  ·subst h; simp [List.isPrefixOf]
  ·simp [List.isPrefixOf,h]
   intro e; exact absurd e.symm h
theorem jV9 {w:World} {V:Nat→Prop} (h:zXK w V):(∃ t v,w.cell? ⟨4,0,none⟩=some (.iface t v))∧∃ t v,w.cell? ⟨5,0,none⟩=some (.iface t v):=
 ⟨(h.2.1 4 (by simp [zJF])).2,(h.2.1 5 (by simp [zJF])).2⟩
theorem jKb {w w':World} (hb:RowKit.Below w.heap.size w w') {g:Nat} (hg:g < w.heap.size) (hc:∀ i:Nat,i < 20→w.cell? ⟨g,i,none⟩=some (.int .u64 ((10 ^ i:Nat):Int))) :
  (∀ i:Nat,i < 20→w'.cell? ⟨g,i,none⟩=some (.int .u64 ((10 ^ i:Nat):Int)))∧g < w'.heap.size:=
 ⟨fun i hi=>by rw [RowKit.Below.cell hb (p:=⟨g,i,none⟩) hg]; exact hc i hi,Nat.lt_of_lt_of_le hg hb.size⟩
theorem zKh (l:Lb) (hl:l.length≤281474976710656):Ans Tryz.prog 112 [RV.d (DV.str (toS l))] (RV.tup [RV.d (DV.int .i64 (numP l).1),RV.d (DV.bool (numP l).2)]):=by
 intro w S vs hG hR
 obtain ⟨vs⟩:=vs
 match vs,hR with
 | [v],hR=>
  simp only [RepRs,RepR,RepD,and_true] at hR
  obtain ⟨rfl,hsz⟩:=hR
  have hsz':(toS l).size≤281474976710656:=by rw [zZe]; exact hl
  obtain ⟨hten,hg⟩:=jJb hG
  obtain ⟨⟨t1,v1,hE1⟩,t2,v2,hE2⟩:=jV9 hG
  suffices h:Calls Tryz.prog 112 #[.string (toS l)] w fun e w'=>e=.returned (.tuple #[.int .i64 (zV0 l),.bool (zY6 l)])∧RowKit.Below w.heap.size w w' by
   refine h.mono fun e w' h=>?_
   obtain ⟨rfl,hb⟩:=h
   refine ⟨_,rfl,?_,hb⟩
   simp only [RepR]
   refine ⟨_,rfl,?_⟩
   simp only [RepRs,RepR,RepD,and_true]
   refine ⟨⟨rfl,(zXB _ _).2 ?_⟩,rfl⟩
   have : -9223372036854775808≤zV0 l∧zV0 l≤9223372036854775807:=by
    unfold zV0
    split
    ·rename_i h; exact atoiAll_bounds h
    ·exact atoiSat_bounds l
    ·omega
   simpa [numP,IntKind.min,IntKind.max,IntKind.signed,IntKind.bits] using this
  cases hA:atoiAll l with
  | ok v=>
   have hV:zV0 l=v:=by unfold zV0; rw [hA]
   rw [hV]
   have hok:Calls Tryz.prog 138 #[.string (toS l)] w fun e w'=>e=.returned (.tuple #[.int .i64 v,.nilIface])∧RowKit.Below w.heap.size w w':=
    (Tryz.strconv_Atoi_ok (toS l) (by omega) v hA w).mono fun e w' h=>⟨h.1,by
     rcases h.2 with rfl | ⟨t,rfl⟩
     ·exact Below.refl _ _
     ·exact bytesWorld_below w _ t⟩
   have htr:∀ w,Calls Tryz.prog 139 #[.string (toS l),.string ⟨#[45]⟩] w fun e w'=>e=.returned (.string (toS (unsg l)))∧w'=w:=fun w=>by
    have:=Tryz.strings_TrimPrefix (toS l) ⟨#[45]⟩ w
    rw [zWG,show (⟨#[45]⟩:ByteArray).data.toList=[45] from rfl,jJ7] at this
    exact this
   have hvb:=atoiAll_bounds hA
   have hcan:zY6 l=(decide ((unsg l).length≤10) && decide (itoa v=l)):=by
    rw [Bool.eq_iff_iff]
    simp only [Bool.and_eq_true,decide_eq_true_eq]
    constructor
    ·intro hc
     have h1:=zJo hc
     rw [hA] at h1
     injection h1 with h1
     subst h1
     exact ⟨(zU8.1 hc).2.1,jQn hc⟩
    ·intro ⟨h1,h2⟩
     rw [← h2] at h1
     rw [← h2]
     exact (jQb h1).1
   rw [hcan]
   have hit:∀ w',RowKit.Below w.heap.size w w'→Calls Tryz.prog 97 #[.int .i64 v] w' fun e W=>e=.returned (.string (toS (itoa v)))∧RowKit.Below w.heap.size w W:=fun w' hb=>by
    obtain ⟨hc,hg'⟩:=jKb hb hg hten
    exact (jZ3 v hvb.1 hvb.2 w' hc hg').mono fun e W h=>⟨h.1,hb.trans (h.2.mono hb.size)⟩
   have hlen:(toS (unsg l)).size=(unsg l).length:=zZe _
   have hbig:(unsg l).length≤9223372036854775807:=by
    have:(unsg l).length≤l.length:=by unfold unsg; split <;> (try split) <;> simp
    omega
   generalize unsg l=U at *
   clear hV hcan hG hE1 hE2 hten
   have hl8:Aside (l.length≤281474976710656):=hl
   clear hl hsz hsz'
   go_enter Tryz.func112,Tryz.ntmps112
   go_wp2_with (first
    |(go_at_call 138; refine hok.mono ?_; rintro e w1 ⟨rfl,hb⟩)
    |(go_at_call 139; refine (htr _).mono ?_; rintro e w' ⟨rfl,rfl⟩)
    |(go_at_call 97; refine (hit _ (by assumption)).mono ?_; rintro e w2 ⟨rfl,hb2⟩))
   ·go_ret2
    refine ⟨?_,by assumption⟩
    rw [zVZ,show decide (U.length≤10)=true from decide_eq_true (by omega),Bool.true_and]
    rfl
   ·go_ret2
    refine ⟨?_,by assumption⟩
    rw [show decide (U.length≤10)=false from decide_eq_false (by omega),Bool.false_and]
    rfl
  | range=>
   have hV:zV0 l=atoiSat l:=by unfold zV0; rw [hA]
   have hcan:zY6 l=false:=by
    cases hc:zY6 l with
    | false=>rfl
    | true=>have:=zJo hc; rw [hA] at this; cases this
   rw [hV,hcan]
   have hok:Calls Tryz.prog 138 #[.string (toS l)] w fun e w'=>∃ N,e=.returned (.tuple #[.int .i64 (atoiSat l),.iface 205 (.pointer (some ⟨N,0,none⟩))])∧RowKit.Below w.heap.size w w':=
    (Tryz.strconv_Atoi_range (toS l) hsz' hA _ w hE2 (.inr ⟨_,_,rfl⟩)).mono fun e w' h=>by
     obtain ⟨N,h1,_,_,h2⟩:=h
     exact ⟨N,h1,h2⟩
   clear hV hcan hG hE1 hE2 hten hsz hsz' hl
   generalize atoiSat l=v at *
   go_enter Tryz.func112,Tryz.ntmps112
   go_wp2_with (go_at_call 138; refine hok.mono ?_; rintro e w1 ⟨N,rfl,hb⟩)
   go_ret2
   exact ⟨rfl,hb⟩
  | _=>
   have hV:zV0 l=0:=by unfold zV0; rw [hA]
   have hcan:zY6 l=false:=by
    cases hc:zY6 l with
    | false=>rfl
    | true=>have:=zJo hc; rw [hA] at this; cases this
   rw [hV,hcan]
   have hok:Calls Tryz.prog 138 #[.string (toS l)] w fun e w'=>∃ N,e=.returned (.tuple #[.int .i64 0,.iface 205 (.pointer (some ⟨N,0,none⟩))])∧RowKit.Below w.heap.size w w':=
    (Any.strconv_Atoi_syntax Tryz.laysC172 (toS l) hsz' hA _ w hE1 (.inr ⟨_,_,rfl⟩)).mono fun e w' h=>by
     obtain ⟨N,h1,_,_,h2⟩:=h
     exact ⟨N,h1,h2⟩
   clear hV hcan hG hE1 hE2 hten hsz hsz' hl
   go_enter Tryz.func112,Tryz.ntmps112
   go_wp2_with (go_at_call 138; refine hok.mono ?_; rintro e w1 ⟨N,rfl,hb⟩)
   go_ret2
   exact ⟨rfl,hb⟩
end Go.Proofs.YtheidkkebdhmkaaGreatDoor
