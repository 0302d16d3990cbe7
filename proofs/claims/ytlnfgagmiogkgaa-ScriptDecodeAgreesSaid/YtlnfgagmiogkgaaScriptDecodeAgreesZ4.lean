/-
  Part 4 of what ScriptDecodeAgrees rests on.
-/
import Derived.Test.YtlnfgagmiogkgaaScriptDecodeAgreesZ3
import Derived.Test.YtlnfgagmiogkgaaScriptDecodeAgreesZ2
import Derived.Tactics
import Derived.Tactics2
import Derived.Defers
import Derived.Recover
import Derived.WalkSmall
import Derived.Laws.Pointers
namespace Go.Proofs.Ytlnfgagmiogkgaa
open Go.RowKit
set_option linter.unusedVariables false
set_option linter.unusedSimpArgs false
attribute [local irreducible] Ans AnsO AnsG AnsN AnsI
set_option maxRecDepth 4000
def jVM:Gam where
 pure:=fun f xs=>
  if f=16 then (match xs with | [.d (.int _ n),.d (.int _ k)]=>some (rJ ((modS n k))) | _=>none) else
  if f=60 then (match xs with | []=>some (RV.tup [RV.tup [rJ (37),rJ (5)]]) | [.agg [.int _ mood,.sl L xs],.d (.int _ n),.d (.int _ most)]=>some (RV.d (dS n.toNat (pxs (zQm mood L xs most n.toNat)))) | _=>none) else
  if f=27 then (match xs with | [.d (.int _ w),.d (.int _ h),.agg [.int _ c0,.int _ c1,.int _ c2,.int _ ca,.int _ cf]]=>some (RV.agg [dJ ((zQa w h ⟨c0,c1,c2,ca,cf⟩).w),dJ ((zQa w h ⟨c0,c1,c2,ca,cf⟩).h),dQ ((zQa w h ⟨c0,c1,c2,ca,cf⟩).so),dK (((zQa w h ⟨c0,c1,c2,ca,cf⟩).c).a),dK (((zQa w h ⟨c0,c1,c2,ca,cf⟩).c).b),dK (((zQa w h ⟨c0,c1,c2,ca,cf⟩).c).c),dK (((zQa w h ⟨c0,c1,c2,ca,cf⟩).c).al),dK (((zQa w h ⟨c0,c1,c2,ca,cf⟩).c).f),dJ (((zQa w h ⟨c0,c1,c2,ca,cf⟩).p0).w),dJ (((zQa w h ⟨c0,c1,c2,ca,cf⟩).p0).h),dJ (((zQa w h ⟨c0,c1,c2,ca,cf⟩).p0).s),dS (((zQa w h ⟨c0,c1,c2,ca,cf⟩).p0).n) (((zQa w h ⟨c0,c1,c2,ca,cf⟩).p0).xs),dJ (((zQa w h ⟨c0,c1,c2,ca,cf⟩).p1).w),dJ (((zQa w h ⟨c0,c1,c2,ca,cf⟩).p1).h),dJ (((zQa w h ⟨c0,c1,c2,ca,cf⟩).p1).s),dS (((zQa w h ⟨c0,c1,c2,ca,cf⟩).p1).n) (((zQa w h ⟨c0,c1,c2,ca,cf⟩).p1).xs),dJ (((zQa w h ⟨c0,c1,c2,ca,cf⟩).p2).w),dJ (((zQa w h ⟨c0,c1,c2,ca,cf⟩).p2).h),dJ (((zQa w h ⟨c0,c1,c2,ca,cf⟩).p2).s),dS (((zQa w h ⟨c0,c1,c2,ca,cf⟩).p2).n) (((zQa w h ⟨c0,c1,c2,ca,cf⟩).p2).xs),dJ (((zQa w h ⟨c0,c1,c2,ca,cf⟩).p3).w),dJ (((zQa w h ⟨c0,c1,c2,ca,cf⟩).p3).h),dJ (((zQa w h ⟨c0,c1,c2,ca,cf⟩).p3).s),dS (((zQa w h ⟨c0,c1,c2,ca,cf⟩).p3).n) (((zQa w h ⟨c0,c1,c2,ca,cf⟩).p3).xs),dJ (((zQa w h ⟨c0,c1,c2,ca,cf⟩).p4).w),dJ (((zQa w h ⟨c0,c1,c2,ca,cf⟩).p4).h),dJ (((zQa w h ⟨c0,c1,c2,ca,cf⟩).p4).s),dS (((zQa w h ⟨c0,c1,c2,ca,cf⟩).p4).n) (((zQa w h ⟨c0,c1,c2,ca,cf⟩).p4).xs)]) | _=>none) else
  none
 modes:=fun f=>
  if f=61 then some ([true,true,true],0,5) else
  none
 proc:=fun f xs bs=>
  if f=61 then (match xs,bs with | [AV.one (Cl.d (DV.int _ w)),AV.one (Cl.d (DV.int _ h)),AV.one (Cl.d (DV.sl n xs))],[]=>some ⟨AV.tup [AV.agg [cJ (((imOf w h (zQb xs)).w)),cJ (((imOf w h (zQb xs)).h)),Cl.d (dQ ((imOf w h (zQb xs)).so)),cK (((imOf w h (zQb xs)).c.a)),cK (((imOf w h (zQb xs)).c.b)),cK (((imOf w h (zQb xs)).c.c)),cK (((imOf w h (zQb xs)).c.al)),cK (((imOf w h (zQb xs)).c.f)),cJ (((imOf w h (zQb xs)).p0.w)),cJ (((imOf w h (zQb xs)).p0.h)),cJ (((imOf w h (zQb xs)).p0.s)),Cl.ref 0 ((imOf w h (zQb xs)).p0.n),cJ (((imOf w h (zQb xs)).p1.w)),cJ (((imOf w h (zQb xs)).p1.h)),cJ (((imOf w h (zQb xs)).p1.s)),Cl.ref 1 ((imOf w h (zQb xs)).p1.n),cJ (((imOf w h (zQb xs)).p2.w)),cJ (((imOf w h (zQb xs)).p2.h)),cJ (((imOf w h (zQb xs)).p2.s)),Cl.ref 2 ((imOf w h (zQb xs)).p2.n),cJ (((imOf w h (zQb xs)).p3.w)),cJ (((imOf w h (zQb xs)).p3.h)),cJ (((imOf w h (zQb xs)).p3.s)),Cl.ref 3 ((imOf w h (zQb xs)).p3.n),cJ (((imOf w h (zQb xs)).p4.w)),cJ (((imOf w h (zQb xs)).p4.h)),cJ (((imOf w h (zQb xs)).p4.s)),Cl.ref 4 ((imOf w h (zQb xs)).p4.n)],AV.one (Cl.d (dQ (ofOk w h n)))],[Bx.row 34 1 ((imOf w h (zQb xs)).p0.xs),Bx.row 34 1 ((imOf w h (zQb xs)).p1.xs),Bx.row 34 1 ((imOf w h (zQb xs)).p2.xs),Bx.row 34 1 ((imOf w h (zQb xs)).p3.xs),Bx.row 34 1 ((imOf w h (zQb xs)).p4.xs)],true⟩ | _,_=>none) else
  none
 iter:=fun f cs=>
  none
def zWd (pw:Int) (ph:Int) (so:Int) (mood:Int) (L:Nat) (xs:List DV) (x0:Int) (y0:Int) (x1:Int) (y1:Int) (most:Int):Ann:=Ann.leaf
theorem jZQ (pw:Int) (ph:Int) (so:Int) (mood:Int) (L:Nat) (xs:List DV) (x0:Int) (y0:Int) (x1:Int) (y1:Int) (most:Int):vcg Try.prog jVM 60 (zQl Try.f26) (zWd pw ph so mood L xs x0 y0 x1 y1 most) kn0 (zQN [RV.agg [DV.int .i64 pw,DV.int .i64 ph,DV.int .i64 so,DV.int .i64 mood,DV.sl L xs],RV.agg [DV.int .i64 x0,DV.int .i64 y0,DV.int .i64 x1,DV.int .i64 y1],RV.d (DV.int .u16 most)]) (post Try.prog Try.f26.results.toList (·=RV.agg [DV.int .i64 ((zQg pw ph so mood L xs x0 y0 x1 y1 most).w),DV.int .i64 ((zQg pw ph so mood L xs x0 y0 x1 y1 most).h),DV.bool ((zQg pw ph so mood L xs x0 y0 x1 y1 most).so),DV.int .u16 (((zQg pw ph so mood L xs x0 y0 x1 y1 most).c).a),DV.int .u16 (((zQg pw ph so mood L xs x0 y0 x1 y1 most).c).b),DV.int .u16 (((zQg pw ph so mood L xs x0 y0 x1 y1 most).c).c),DV.int .u16 (((zQg pw ph so mood L xs x0 y0 x1 y1 most).c).al),DV.int .u16 (((zQg pw ph so mood L xs x0 y0 x1 y1 most).c).f),DV.int .i64 (((zQg pw ph so mood L xs x0 y0 x1 y1 most).p0).w),DV.int .i64 (((zQg pw ph so mood L xs x0 y0 x1 y1 most).p0).h),DV.int .i64 (((zQg pw ph so mood L xs x0 y0 x1 y1 most).p0).s),DV.sl (((zQg pw ph so mood L xs x0 y0 x1 y1 most).p0).n) (((zQg pw ph so mood L xs x0 y0 x1 y1 most).p0).xs),DV.int .i64 (((zQg pw ph so mood L xs x0 y0 x1 y1 most).p1).w),DV.int .i64 (((zQg pw ph so mood L xs x0 y0 x1 y1 most).p1).h),DV.int .i64 (((zQg pw ph so mood L xs x0 y0 x1 y1 most).p1).s),DV.sl (((zQg pw ph so mood L xs x0 y0 x1 y1 most).p1).n) (((zQg pw ph so mood L xs x0 y0 x1 y1 most).p1).xs),DV.int .i64 (((zQg pw ph so mood L xs x0 y0 x1 y1 most).p2).w),DV.int .i64 (((zQg pw ph so mood L xs x0 y0 x1 y1 most).p2).h),DV.int .i64 (((zQg pw ph so mood L xs x0 y0 x1 y1 most).p2).s),DV.sl (((zQg pw ph so mood L xs x0 y0 x1 y1 most).p2).n) (((zQg pw ph so mood L xs x0 y0 x1 y1 most).p2).xs),DV.int .i64 (((zQg pw ph so mood L xs x0 y0 x1 y1 most).p3).w),DV.int .i64 (((zQg pw ph so mood L xs x0 y0 x1 y1 most).p3).h),DV.int .i64 (((zQg pw ph so mood L xs x0 y0 x1 y1 most).p3).s),DV.sl (((zQg pw ph so mood L xs x0 y0 x1 y1 most).p3).n) (((zQg pw ph so mood L xs x0 y0 x1 y1 most).p3).xs),DV.int .i64 (((zQg pw ph so mood L xs x0 y0 x1 y1 most).p4).w),DV.int .i64 (((zQg pw ph so mood L xs x0 y0 x1 y1 most).p4).h),DV.int .i64 (((zQg pw ph so mood L xs x0 y0 x1 y1 most).p4).s),DV.sl (((zQg pw ph so mood L xs x0 y0 x1 y1 most).p4).n) (((zQg pw ph so mood L xs x0 y0 x1 y1 most).p4).xs)])) =
  (let zz0:=(wK (Int.tdiv pw (5:Int))); let zz1:=[dJ mood,dS L xs]; let zz2:=(wK (x1 - x0)); let zz3:=(wK (y1 - y0)); let zz4:=(wK (zz2*zz3)); let zz5:=(zz4.toNat); let zz6:=(pxs (zQm mood L xs most zz4.toNat)); let zz7:=(Ans Try.prog 16 [rJ (so),rJ (2)] (rJ ((modS so (2:Int))))); let zz8:=(dJ zz2); let zz9:=(dJ zz3); let zz10:=(imR (zQa zz2 zz3 ⟨(nAt zz6 0),(nAt zz6 1),(nAt zz6 2),(nAt zz6 3),(nAt zz6 4)⟩)); let zz11:=(imR (zQg pw ph so mood L xs x0 y0 x1 y1 most)); let zz12:=(wK ((1:Int)+(modS pw (5:Int)))); let zz13:=(wK ((1:Int)+(modS ph (4:Int)))); let zz14:=(wK (zz12*zz13)); let zz15:=(zz14.toNat); let zz16:=(pxs (zQm mood L xs most zz14.toNat)); let zz17:=(dJ zz12); let zz18:=(dJ zz13); let zz19:=(imR (zQa zz12 zz13 ⟨(nAt zz16 0),(nAt zz16 1),(nAt zz16 2),(nAt zz16 3),(nAt zz16 4)⟩)); tU5 ((Ans Try.prog 16 [rJ (pw),rJ (5)] (rJ ((modS pw (5:Int)))))∧tU3 ((Ans Try.prog 16 [rJ (ph),rJ (4)] (rJ ((modS ph (4:Int)))))∧tU3 ((true=true)∧tU2 (((5:Int)≠0)∧(Ans Try.prog 16 [rJ (zz0),rJ (3)] (rJ ((modS zz0 (3:Int)))))∧True∧((((modS zz0 (3:Int))==(0:Int))=true→tU4 (tU8 ((true=true)∧tU6 ((AnsO Try.prog 60 [RV.agg zz1,rJ (zz4),RV.d (dK most)] 37 5 zz5 zz6)∧tU3 (zz7∧True∧((((modS so (2:Int))==(0:Int))=true→tU3 ((0≤(0:Int)∧(0:Int) < (zz4.toNat:Int))∧((zz6[0]?=some (dK (nAt zz6 0)))∧(zz6[1]?=some (dK (nAt zz6 1)))∧(zz6[2]?=some (dK (nAt zz6 2)))∧(zz6[3]?=some (dK (nAt zz6 3)))∧(zz6[4]?=some (dK (nAt zz6 4)))∧True)∧(Ans Try.prog 27 [RV.d zz8,RV.d zz9,RV.agg [dK (nAt zz6 0),dK (nAt zz6 1),dK (nAt zz6 2),dK (nAt zz6 3),dK (nAt zz6 4)]] (zz10))∧True∧zz10=zz11))∧(((modS so (2:Int))==(0:Int))=false→tU3 ((AnsG Try.prog 61 0 [AV.one (Cl.d zz8),AV.one (Cl.d zz9),AV.one (Cl.d (dS zz5 zz6))] [] ⟨AV.tup [(imV 0 (imOf zz2 zz3 (zQb zz6))),AV.one (Cl.d (dQ (ofOk zz2 zz3 zz5)))],(imB 34 (imOf zz2 zz3 (zQb zz6))),true⟩)∧tU8 ((imR (imOf zz2 zz3 (zQb zz6)))=zz11)))))))))∧(((modS zz0 (3:Int))==(0:Int))=false→tU6 ((AnsO Try.prog 60 [RV.agg zz1,rJ (zz14),RV.d (dK most)] 37 5 zz15 zz16)∧tU3 (zz7∧True∧((((modS so (2:Int))==(0:Int))=true→tU3 ((0≤(0:Int)∧(0:Int) < (zz14.toNat:Int))∧((zz16[0]?=some (dK (nAt zz16 0)))∧(zz16[1]?=some (dK (nAt zz16 1)))∧(zz16[2]?=some (dK (nAt zz16 2)))∧(zz16[3]?=some (dK (nAt zz16 3)))∧(zz16[4]?=some (dK (nAt zz16 4)))∧True)∧(Ans Try.prog 27 [RV.d zz17,RV.d zz18,RV.agg [dK (nAt zz16 0),dK (nAt zz16 1),dK (nAt zz16 2),dK (nAt zz16 3),dK (nAt zz16 4)]] (zz19))∧True∧zz19=zz11))∧(((modS so (2:Int))==(0:Int))=false→tU3 ((AnsG Try.prog 61 0 [AV.one (Cl.d zz17),AV.one (Cl.d zz18),AV.one (Cl.d (dS zz15 zz16))] [] ⟨AV.tup [(imV 0 (imOf zz12 zz13 (zQb zz16))),AV.one (Cl.d (dQ (ofOk zz12 zz13 zz15)))],(imB 34 (imOf zz12 zz13 (zQb zz16))),true⟩)∧tU8 ((imR (imOf zz12 zz13 (zQb zz16)))=zz11))))))))))))):=by kernel_rfl
theorem jQ0 (pw:Int) (ph:Int) (so:Int) (mood:Int) (L:Nat) (xs:List DV) (x0:Int) (y0:Int) (x1:Int) (y1:Int) (most:Int) (hx:Is5 L xs) (hc:1≤x1 - x0∧x1 - x0≤100∧1≤y1 - y0∧y1 - y0≤100):Ans Try.prog 26 [RV.agg [DV.int .i64 pw,DV.int .i64 ph,DV.int .i64 so,DV.int .i64 mood,DV.sl L xs],RV.agg [DV.int .i64 x0,DV.int .i64 y0,DV.int .i64 x1,DV.int .i64 y1],RV.d (DV.int .u16 most)] (RV.agg [DV.int .i64 ((zQg pw ph so mood L xs x0 y0 x1 y1 most).w),DV.int .i64 ((zQg pw ph so mood L xs x0 y0 x1 y1 most).h),DV.bool ((zQg pw ph so mood L xs x0 y0 x1 y1 most).so),DV.int .u16 (((zQg pw ph so mood L xs x0 y0 x1 y1 most).c).a),DV.int .u16 (((zQg pw ph so mood L xs x0 y0 x1 y1 most).c).b),DV.int .u16 (((zQg pw ph so mood L xs x0 y0 x1 y1 most).c).c),DV.int .u16 (((zQg pw ph so mood L xs x0 y0 x1 y1 most).c).al),DV.int .u16 (((zQg pw ph so mood L xs x0 y0 x1 y1 most).c).f),DV.int .i64 (((zQg pw ph so mood L xs x0 y0 x1 y1 most).p0).w),DV.int .i64 (((zQg pw ph so mood L xs x0 y0 x1 y1 most).p0).h),DV.int .i64 (((zQg pw ph so mood L xs x0 y0 x1 y1 most).p0).s),DV.sl (((zQg pw ph so mood L xs x0 y0 x1 y1 most).p0).n) (((zQg pw ph so mood L xs x0 y0 x1 y1 most).p0).xs),DV.int .i64 (((zQg pw ph so mood L xs x0 y0 x1 y1 most).p1).w),DV.int .i64 (((zQg pw ph so mood L xs x0 y0 x1 y1 most).p1).h),DV.int .i64 (((zQg pw ph so mood L xs x0 y0 x1 y1 most).p1).s),DV.sl (((zQg pw ph so mood L xs x0 y0 x1 y1 most).p1).n) (((zQg pw ph so mood L xs x0 y0 x1 y1 most).p1).xs),DV.int .i64 (((zQg pw ph so mood L xs x0 y0 x1 y1 most).p2).w),DV.int .i64 (((zQg pw ph so mood L xs x0 y0 x1 y1 most).p2).h),DV.int .i64 (((zQg pw ph so mood L xs x0 y0 x1 y1 most).p2).s),DV.sl (((zQg pw ph so mood L xs x0 y0 x1 y1 most).p2).n) (((zQg pw ph so mood L xs x0 y0 x1 y1 most).p2).xs),DV.int .i64 (((zQg pw ph so mood L xs x0 y0 x1 y1 most).p3).w),DV.int .i64 (((zQg pw ph so mood L xs x0 y0 x1 y1 most).p3).h),DV.int .i64 (((zQg pw ph so mood L xs x0 y0 x1 y1 most).p3).s),DV.sl (((zQg pw ph so mood L xs x0 y0 x1 y1 most).p3).n) (((zQg pw ph so mood L xs x0 y0 x1 y1 most).p3).xs),DV.int .i64 (((zQg pw ph so mood L xs x0 y0 x1 y1 most).p4).w),DV.int .i64 (((zQg pw ph so mood L xs x0 y0 x1 y1 most).p4).h),DV.int .i64 (((zQg pw ph so mood L xs x0 y0 x1 y1 most).p4).s),DV.sl (((zQg pw ph so mood L xs x0 y0 x1 y1 most).p4).n) (((zQg pw ph so mood L xs x0 y0 x1 y1 most).p4).xs)]):=
  zQf (Γ:=jVM) (zWd pw ph so mood L xs x0 y0 x1 y1 most) zQq Try.func26 rfl (Nat.le_of_ble_eq_true rfl) fun hwf=>by
    refine Eq.mpr (jZQ pw ph so mood L xs x0 y0 x1 y1 most) ?_
    delta tU2 tU3 tU4 tU5 tU6 tU8 dJ dK dQ wK dS rJ
    simp only [true_and,and_true,RV.d.injEq,RV.agg.injEq,RV.tup.injEq,DV.bool.injEq,DV.int.injEq,DV.sl.injEq,List.cons.injEq,forall_const,Bool.not_false,Bool.not_true,Bool.not_eq_true',Bool.not_eq_false',decide_eq_true_eq,decide_eq_false_iff_not,Int.toNat_natCast,zQr]
    have go:∀ W H:Int,(1≤W∧W≤100)→(1≤H∧H≤100)→0 < (IntKind.wrap .i64 (W*H)).toNat∧IntKind.wrap .i64 (W*H)≤16777216:=fun W H a b=>by have:=zH0 a b; omega
    have b5:=@zQ6 pw 5 (by omega) (by omega)
    have b4:=@zQ6 ph 4 (by omega) (by omega)
    refine ⟨by omega,fun q1=>?_,fun q1=>?_⟩
    · have hW:zXH pw 5 x0 x1 pw=IntKind.wrap .i64 (x1 - x0):=by unfold zXH; rw [if_pos (by simpa using q1)]
      have hH:zXH ph 4 y0 y1 pw=IntKind.wrap .i64 (y1 - y0):=by unfold zXH; rw [if_pos (by simpa using q1)]
      have gi:=zK8 pw ph so mood L xs x0 y0 x1 y1 most _ _ hW hH
      have cW:1≤IntKind.wrap .i64 (x1 - x0)∧IntKind.wrap .i64 (x1 - x0)≤100:=by rw [IntWalk.i64_in _ ⟨by omega,by omega⟩]; omega
      have cH:1≤IntKind.wrap .i64 (y1 - y0)∧IntKind.wrap .i64 (y1 - y0)≤100:=by rw [IntWalk.i64_in _ ⟨by omega,by omega⟩]; omega
      generalize IntKind.wrap .i64 (x1 - x0)=W at *
      generalize IntKind.wrap .i64 (y1 - y0)=H at *
      obtain ⟨g1,g2⟩:=go W H cW cH
      have pn:=zWb mood L xs (IntKind.wrap .i64 (W*H)) most hx g2
      refine ⟨pn,fun q2=>?_,fun q2=>?_⟩
      · have hs:modS so 2=0:=by simpa using q2
        rw [if_pos hs] at gi
        obtain ⟨v0,v1,v2,v3,v4⟩:=zV0 (mood:=mood) (L:=L) (xs:=xs) (most:=most) g1
        have f0:=zY3 (mood:=mood) (L:=L) (xs:=xs) (most:=most) g1 0 (by omega)
        have f1:=zY3 (mood:=mood) (L:=L) (xs:=xs) (most:=most) g1 1 (by omega)
        have f2:=zY3 (mood:=mood) (L:=L) (xs:=xs) (most:=most) g1 2 (by omega)
        have f3:=zY3 (mood:=mood) (L:=L) (xs:=xs) (most:=most) g1 3 (by omega)
        have f4:=zY3 (mood:=mood) (L:=L) (xs:=xs) (most:=most) g1 4 (by omega)
        have g3:0 < IntKind.wrap .i64 (W*H):=by omega
        rw [gi]
        simp only [v0,v1,v2,v3,v4] at f0 f1 f2 f3 f4 ⊢
        exact ⟨⟨by omega,by omega⟩,⟨f0,f1,f2,f3,f4⟩,zX2 W H ⟨_,_,_,_,_⟩,trivial⟩
      · have hs:¬ modS so 2=0:=by simpa using q2
        rw [if_neg hs] at gi
        rw [gi]
        have po:=zYb W H _ (pxs (zQm mood L xs most (IntKind.wrap .i64 (W*H)).toNat)) (zGP _ _ _ _ rfl)
        simp only [zZf] at po ⊢
        exact ⟨po,trivial⟩
    · have hW:zXH pw 5 x0 x1 pw=IntKind.wrap .i64 (1+modS pw 5):=by unfold zXH; rw [if_neg (by simpa using q1)]
      have hH:zXH ph 4 y0 y1 pw=IntKind.wrap .i64 (1+modS ph 4):=by unfold zXH; rw [if_neg (by simpa using q1)]
      have gi:=zK8 pw ph so mood L xs x0 y0 x1 y1 most _ _ hW hH
      have cW:1≤IntKind.wrap .i64 (1+modS pw 5)∧IntKind.wrap .i64 (1+modS pw 5)≤100:=by rw [IntWalk.i64_in _ ⟨by omega,by omega⟩]; omega
      have cH:1≤IntKind.wrap .i64 (1+modS ph 4)∧IntKind.wrap .i64 (1+modS ph 4)≤100:=by rw [IntWalk.i64_in _ ⟨by omega,by omega⟩]; omega
      generalize IntKind.wrap .i64 (1+modS pw 5)=W at *
      generalize IntKind.wrap .i64 (1+modS ph 4)=H at *
      obtain ⟨g1,g2⟩:=go W H cW cH
      have pn:=zWb mood L xs (IntKind.wrap .i64 (W*H)) most hx g2
      refine ⟨pn,fun q2=>?_,fun q2=>?_⟩
      · have hs:modS so 2=0:=by simpa using q2
        rw [if_pos hs] at gi
        obtain ⟨v0,v1,v2,v3,v4⟩:=zV0 (mood:=mood) (L:=L) (xs:=xs) (most:=most) g1
        have f0:=zY3 (mood:=mood) (L:=L) (xs:=xs) (most:=most) g1 0 (by omega)
        have f1:=zY3 (mood:=mood) (L:=L) (xs:=xs) (most:=most) g1 1 (by omega)
        have f2:=zY3 (mood:=mood) (L:=L) (xs:=xs) (most:=most) g1 2 (by omega)
        have f3:=zY3 (mood:=mood) (L:=L) (xs:=xs) (most:=most) g1 3 (by omega)
        have f4:=zY3 (mood:=mood) (L:=L) (xs:=xs) (most:=most) g1 4 (by omega)
        have g3:0 < IntKind.wrap .i64 (W*H):=by omega
        rw [gi]
        simp only [v0,v1,v2,v3,v4] at f0 f1 f2 f3 f4 ⊢
        exact ⟨⟨by omega,by omega⟩,⟨f0,f1,f2,f3,f4⟩,zX2 W H ⟨_,_,_,_,_⟩,trivial⟩
      · have hs:¬ modS so 2=0:=by simpa using q2
        rw [if_neg hs] at gi
        rw [gi]
        have po:=zYb W H _ (pxs (zQm mood L xs most (IntKind.wrap .i64 (W*H)).toNat)) (zGP _ _ _ _ rfl)
        simp only [zZf] at po ⊢
        exact ⟨po,trivial⟩
end Go.Proofs.Ytlnfgagmiogkgaa
namespace Go.Proofs.Ytlnfgagmiogkgaa
open Go.RowKit
set_option linter.unusedVariables false
set_option linter.unusedSimpArgs false
attribute [local irreducible] Ans AnsO AnsG AnsN AnsI
set_option maxRecDepth 4000
def jVL:Gam where
 pure:=fun f xs=>
  if f=16 then (match xs with | [.d (.int _ n),.d (.int _ k)]=>some (rJ ((modS n k))) | _=>none) else
  if f=23 then (match xs with | [.d (.int _ n)]=>some (RV.d (dK (gMax n))) | _=>none) else
  if f=26 then (match xs with | [.agg [.int _ pw,.int _ ph,.int _ so,.int _ mood,.sl L xs],.agg [.int _ x0,.int _ y0,.int _ x1,.int _ y1],.d (.int _ most)]=>some (RV.agg [dJ ((zQg pw ph so mood L xs x0 y0 x1 y1 most).w),dJ ((zQg pw ph so mood L xs x0 y0 x1 y1 most).h),dQ ((zQg pw ph so mood L xs x0 y0 x1 y1 most).so),dK (((zQg pw ph so mood L xs x0 y0 x1 y1 most).c).a),dK (((zQg pw ph so mood L xs x0 y0 x1 y1 most).c).b),dK (((zQg pw ph so mood L xs x0 y0 x1 y1 most).c).c),dK (((zQg pw ph so mood L xs x0 y0 x1 y1 most).c).al),dK (((zQg pw ph so mood L xs x0 y0 x1 y1 most).c).f),dJ (((zQg pw ph so mood L xs x0 y0 x1 y1 most).p0).w),dJ (((zQg pw ph so mood L xs x0 y0 x1 y1 most).p0).h),dJ (((zQg pw ph so mood L xs x0 y0 x1 y1 most).p0).s),dS (((zQg pw ph so mood L xs x0 y0 x1 y1 most).p0).n) (((zQg pw ph so mood L xs x0 y0 x1 y1 most).p0).xs),dJ (((zQg pw ph so mood L xs x0 y0 x1 y1 most).p1).w),dJ (((zQg pw ph so mood L xs x0 y0 x1 y1 most).p1).h),dJ (((zQg pw ph so mood L xs x0 y0 x1 y1 most).p1).s),dS (((zQg pw ph so mood L xs x0 y0 x1 y1 most).p1).n) (((zQg pw ph so mood L xs x0 y0 x1 y1 most).p1).xs),dJ (((zQg pw ph so mood L xs x0 y0 x1 y1 most).p2).w),dJ (((zQg pw ph so mood L xs x0 y0 x1 y1 most).p2).h),dJ (((zQg pw ph so mood L xs x0 y0 x1 y1 most).p2).s),dS (((zQg pw ph so mood L xs x0 y0 x1 y1 most).p2).n) (((zQg pw ph so mood L xs x0 y0 x1 y1 most).p2).xs),dJ (((zQg pw ph so mood L xs x0 y0 x1 y1 most).p3).w),dJ (((zQg pw ph so mood L xs x0 y0 x1 y1 most).p3).h),dJ (((zQg pw ph so mood L xs x0 y0 x1 y1 most).p3).s),dS (((zQg pw ph so mood L xs x0 y0 x1 y1 most).p3).n) (((zQg pw ph so mood L xs x0 y0 x1 y1 most).p3).xs),dJ (((zQg pw ph so mood L xs x0 y0 x1 y1 most).p4).w),dJ (((zQg pw ph so mood L xs x0 y0 x1 y1 most).p4).h),dJ (((zQg pw ph so mood L xs x0 y0 x1 y1 most).p4).s),dS (((zQg pw ph so mood L xs x0 y0 x1 y1 most).p4).n) (((zQg pw ph so mood L xs x0 y0 x1 y1 most).p4).xs)]) | _=>none) else
  if f=28 then (match xs with | [.agg [.int _ vk,.int _ vim,.int _ vx,.int _ vy,.int _ vma,.int _ vmx,.int _ vmy,.int _ vop,.int _ vope,.int _ vmo,.int _ vfl],.d (.bool push),.d (.int _ imgs),.agg [.int _ ca,.int _ cb,.int _ cc,.int _ cd],.d (.bool free),.d (.int _ most)]=>some (RV.agg [dJ ((gOp ⟨vk,vim,vx,vy,vma,vmx,vmy,vop,vope,vmo,vfl⟩ push imgs ⟨ca,cb,cc,cd⟩ free most).kind),dJ ((gOp ⟨vk,vim,vx,vy,vma,vmx,vmy,vop,vope,vmo,vfl⟩ push imgs ⟨ca,cb,cc,cd⟩ free most).image),dJ ((gOp ⟨vk,vim,vx,vy,vma,vmx,vmy,vop,vope,vmo,vfl⟩ push imgs ⟨ca,cb,cc,cd⟩ free most).x),dJ ((gOp ⟨vk,vim,vx,vy,vma,vmx,vmy,vop,vope,vmo,vfl⟩ push imgs ⟨ca,cb,cc,cd⟩ free most).y),dJ ((gOp ⟨vk,vim,vx,vy,vma,vmx,vmy,vop,vope,vmo,vfl⟩ push imgs ⟨ca,cb,cc,cd⟩ free most).mask),dJ ((gOp ⟨vk,vim,vx,vy,vma,vmx,vmy,vop,vope,vmo,vfl⟩ push imgs ⟨ca,cb,cc,cd⟩ free most).mx),dJ ((gOp ⟨vk,vim,vx,vy,vma,vmx,vmy,vop,vope,vmo,vfl⟩ push imgs ⟨ca,cb,cc,cd⟩ free most).my),dK ((gOp ⟨vk,vim,vx,vy,vma,vmx,vmy,vop,vope,vmo,vfl⟩ push imgs ⟨ca,cb,cc,cd⟩ free most).opac),dJ ((gOp ⟨vk,vim,vx,vy,vma,vmx,vmy,vop,vope,vmo,vfl⟩ push imgs ⟨ca,cb,cc,cd⟩ free most).oper),dJ ((gOp ⟨vk,vim,vx,vy,vma,vmx,vmy,vop,vope,vmo,vfl⟩ push imgs ⟨ca,cb,cc,cd⟩ free most).mode),dQ ((gOp ⟨vk,vim,vx,vy,vma,vmx,vmy,vop,vope,vmo,vfl⟩ push imgs ⟨ca,cb,cc,cd⟩ free most).iso),dQ ((gOp ⟨vk,vim,vx,vy,vma,vmx,vmy,vop,vope,vmo,vfl⟩ push imgs ⟨ca,cb,cc,cd⟩ free most).kno)]) | _=>none) else
  if f=25 then (match xs with | []=>some (RV.tup [RV.tup [rJ (3),rJ (1)]]) | [.d (.sl n xs),.d (.int _ m)]=>some (RV.d (dS ((zZO (ints xs) m).length) (is (zZO (ints xs) m)))) | _=>none) else
  if f=24 then (match xs with | [.agg [.int _ a,.int _ b,.int _ c,.int _ d],.d (.int _ w),.d (.int _ h)]=>some (RV.tup [rJ (((cntS ⟨a,b,c,d⟩ w h).1)),rJ (((cntS ⟨a,b,c,d⟩ w h).2.1)),RV.d (dQ ((cntS ⟨a,b,c,d⟩ w h).2.2))]) | _=>none) else
  if f=27 then (match xs with | [.d (.int _ w),.d (.int _ h),.agg [.int _ c0,.int _ c1,.int _ c2,.int _ ca,.int _ cf]]=>some (RV.agg [dJ ((zQa w h ⟨c0,c1,c2,ca,cf⟩).w),dJ ((zQa w h ⟨c0,c1,c2,ca,cf⟩).h),dQ ((zQa w h ⟨c0,c1,c2,ca,cf⟩).so),dK (((zQa w h ⟨c0,c1,c2,ca,cf⟩).c).a),dK (((zQa w h ⟨c0,c1,c2,ca,cf⟩).c).b),dK (((zQa w h ⟨c0,c1,c2,ca,cf⟩).c).c),dK (((zQa w h ⟨c0,c1,c2,ca,cf⟩).c).al),dK (((zQa w h ⟨c0,c1,c2,ca,cf⟩).c).f),dJ (((zQa w h ⟨c0,c1,c2,ca,cf⟩).p0).w),dJ (((zQa w h ⟨c0,c1,c2,ca,cf⟩).p0).h),dJ (((zQa w h ⟨c0,c1,c2,ca,cf⟩).p0).s),dS (((zQa w h ⟨c0,c1,c2,ca,cf⟩).p0).n) (((zQa w h ⟨c0,c1,c2,ca,cf⟩).p0).xs),dJ (((zQa w h ⟨c0,c1,c2,ca,cf⟩).p1).w),dJ (((zQa w h ⟨c0,c1,c2,ca,cf⟩).p1).h),dJ (((zQa w h ⟨c0,c1,c2,ca,cf⟩).p1).s),dS (((zQa w h ⟨c0,c1,c2,ca,cf⟩).p1).n) (((zQa w h ⟨c0,c1,c2,ca,cf⟩).p1).xs),dJ (((zQa w h ⟨c0,c1,c2,ca,cf⟩).p2).w),dJ (((zQa w h ⟨c0,c1,c2,ca,cf⟩).p2).h),dJ (((zQa w h ⟨c0,c1,c2,ca,cf⟩).p2).s),dS (((zQa w h ⟨c0,c1,c2,ca,cf⟩).p2).n) (((zQa w h ⟨c0,c1,c2,ca,cf⟩).p2).xs),dJ (((zQa w h ⟨c0,c1,c2,ca,cf⟩).p3).w),dJ (((zQa w h ⟨c0,c1,c2,ca,cf⟩).p3).h),dJ (((zQa w h ⟨c0,c1,c2,ca,cf⟩).p3).s),dS (((zQa w h ⟨c0,c1,c2,ca,cf⟩).p3).n) (((zQa w h ⟨c0,c1,c2,ca,cf⟩).p3).xs),dJ (((zQa w h ⟨c0,c1,c2,ca,cf⟩).p4).w),dJ (((zQa w h ⟨c0,c1,c2,ca,cf⟩).p4).h),dJ (((zQa w h ⟨c0,c1,c2,ca,cf⟩).p4).s),dS (((zQa w h ⟨c0,c1,c2,ca,cf⟩).p4).n) (((zQa w h ⟨c0,c1,c2,ca,cf⟩).p4).xs)]) | _=>none) else
  none
 modes:=fun f=>
  none
 proc:=fun f xs bs=>
  none
 iter:=fun f cs=>
  none
def zV9 (s:Scn):Ann:=let zz0:=(3,AV.one (cK (s.most))); let zz1:=[(1,AV.one (Cl.ptr 1 0)),(2,AV.one (Cl.ptr 2 0)),zz0,(4,AV.one (Cl.ptr 4 0))]; let zz2:=(1,bC [cJ (s.b),cJ (s.x),cJ (s.y),cJ (s.w),cJ (s.h),cJ (s.tw),cJ (s.th),Cl.d (dS s.on s.oxs),Cl.d (dS s.pn s.pxs),Cl.d (dS s.rn s.rxs)]); let zz3:=(2,bC [cJ (0),cJ (0),cJ (0),cJ (0),cJ (0),cJ (0),cJ (0),Cl.nil,Cl.nil,Cl.nil]); let zz4:=[zz2,zz3,(4,bC [cJ (s.bits),cJ (0),cJ (0),cJ (0),cJ (0),cJ (0),cJ (0),Cl.nil,Cl.nil,Cl.nil])]; let zz5:=(7,aJ ((s.gw))); let zz6:=(8,aJ ((s.gh))); let zz7:=[(1,AV.one (Cl.ptr 1 0)),(2,AV.one (Cl.ptr 2 0)),zz0,(4,AV.one (Cl.ptr 4 0)),zz5,zz6]; let zz8:=(7000,Bx.row 3 1 (is s.ord)); let zz9:=(5000,Bx.row 43 28 (ims s.ims)); let zz10:=(13,AV.one (Cl.ref 5002 ((s.run (min s.rn 9)).2.length))); let zz11:=(5002,Bx.row 55 12 (ops (s.run (min s.rn 9)).2)); let zz12:=fun (k:Nat)=>(13,AV.one (Cl.ref 5002 ((s.run k).2.length))); let zz13:=fun (k:Nat)=>(14,aJ (((k:Int)))); let zz14:=fun (k:Nat)=>(4,bC [cJ (s.bits),cJ (s.c.a),cJ (s.c.b),cJ (s.c.c),cJ (s.c.d),cJ (s.gtw),cJ (s.gth),Cl.ref 7000 s.ord.length,Cl.ref 5000 s.ims.length,Cl.ref 5001 ((s.run k).1.length)]); let zz15:=fun (k:Nat)=>(5002,Bx.row 55 12 (ops (s.run k).2)); let zz16:=fun (k:Nat)=>(5001,Bx.row 55 12 (ops (s.run k).1)); let zz17:=fun (k:Nat)=>[zz2,zz3,(zz14 k),(zz15 k),zz8,zz9,(zz16 k)]; let zz18:=fun (k:Nat)=>(15,aJ (((modS (nAt s.rxs ((k:Int).toNat*11+0)) (8:Int))))); (Ann.seq Ann.leaf (Ann.seq Ann.leaf (Ann.seq Ann.leaf (Ann.cut ⟨Unit,fun u1:Unit=>True,fun u1:Unit=>⟨zz1,zz4⟩,fun u1:Unit=>0⟩ Ann.leaf fun u1=>(Ann.seq Ann.leaf (Ann.cut ⟨Unit,fun u2:Unit=>True,fun u2:Unit=>⟨[(1,AV.one (Cl.ptr 1 0)),(2,AV.one (Cl.ptr 2 0)),zz0,(4,AV.one (Cl.ptr 4 0)),(5,aJ ((s.c.a))),(6,aJ ((s.c.b))),zz5,zz6],zz4⟩,fun u2:Unit=>0⟩ Ann.leaf fun u2=>(Ann.seq Ann.leaf (Ann.cut ⟨Unit,fun u3:Unit=>True,fun u3:Unit=>⟨zz7,[zz2,zz3,(4,bC [cJ (s.bits),cJ (s.c.a),cJ (s.c.b),cJ (s.c.c),cJ (s.c.d),cJ (s.gtw),cJ (s.gth),Cl.nil,Cl.nil,Cl.nil])]⟩,fun u3:Unit=>0⟩ Ann.leaf fun u3=>(Ann.seq Ann.leaf (Ann.cut ⟨Unit,fun u4:Unit=>True,fun u4:Unit=>⟨zz7,[zz2,zz3,(4,bC [cJ (s.bits),cJ (s.c.a),cJ (s.c.b),cJ (s.c.c),cJ (s.c.d),cJ (s.gtw),cJ (s.gth),Cl.ref 7000 s.ord.length,Cl.nil,Cl.nil]),zz8]⟩,fun u4:Unit=>0⟩ Ann.leaf fun u4=>(Ann.cut ⟨Unit,fun u6:Unit=>True,fun u6:Unit=>⟨zz7,[zz2,zz3,(4,bC [cJ (s.bits),cJ (s.c.a),cJ (s.c.b),cJ (s.c.c),cJ (s.c.d),cJ (s.gtw),cJ (s.gth),Cl.ref 7000 s.ord.length,Cl.ref 5000 ((s.pics (min s.pn 4)).length),Cl.nil]),zz8,(5000,Bx.row 43 28 (ims (s.pics (min s.pn 4))))]⟩,fun u6:Unit=>0⟩ (Ann.seq Ann.leaf (Ann.loop ⟨Nat,fun p=>p≤min s.pn 4,fun p=>⟨[(1,AV.one (Cl.ptr 1 0)),(2,AV.one (Cl.ptr 2 0)),zz0,(4,AV.one (Cl.ptr 4 0)),zz5,zz6,(12,aJ (((p:Int))))],[zz2,zz3,(4,bC [cJ (s.bits),cJ (s.c.a),cJ (s.c.b),cJ (s.c.c),cJ (s.c.d),cJ (s.gtw),cJ (s.gth),Cl.ref 7000 s.ord.length,Cl.ref 5000 p,Cl.nil]),zz8,(5000,Bx.row 43 28 (ims (s.pics p)))]⟩,fun p=>min s.pn 4 - p⟩ fun p=>Ann.leaf)) fun u6=>(Ann.cut ⟨Unit,fun u5:Unit=>True,fun u5:Unit=>⟨zz1,[zz2,zz3,(4,bC [cJ (s.bits),cJ (s.c.a),cJ (s.c.b),cJ (s.c.c),cJ (s.c.d),cJ (s.gtw),cJ (s.gth),Cl.ref 7000 s.ord.length,Cl.ref 5000 s.ims.length,Cl.nil]),zz8,zz9]⟩,fun u5:Unit=>0⟩ Ann.leaf fun u5=>(Ann.seq Ann.leaf (Ann.cut ⟨Unit,fun u7:Unit=>True,fun u7:Unit=>⟨[(2,AV.one (Cl.ptr 2 0)),(4,AV.one (Cl.ptr 4 0)),zz10],[zz3,(4,bC [cJ (s.bits),cJ (s.c.a),cJ (s.c.b),cJ (s.c.c),cJ (s.c.d),cJ (s.gtw),cJ (s.gth),Cl.ref 7000 s.ord.length,Cl.ref 5000 s.ims.length,Cl.ref 5001 ((s.run (min s.rn 9)).1.length)]),zz11,zz8,zz9,(5001,Bx.row 55 12 (ops (s.run (min s.rn 9)).1))]⟩,fun u7:Unit=>0⟩ (Ann.seq Ann.leaf (Ann.loop ⟨Nat,fun k=>k≤min s.rn 9,fun k=>⟨[(1,AV.one (Cl.ptr 1 0)),(2,AV.one (Cl.ptr 2 0)),zz0,(4,AV.one (Cl.ptr 4 0)),(zz12 k),(zz13 k)],(zz17 k)⟩,fun k=>min s.rn 9 - k⟩ fun k=>(Ann.seq Ann.leaf (Ann.seq (Ann.seq Ann.leaf (Ann.seq Ann.leaf (Ann.cut ⟨Unit,fun u8:Unit=>¬ (modS (rwAt s.rxs (k*11)).k 8=0∧0 < (s.run k).2.length),fun u8:Unit=>⟨[(1,AV.one (Cl.ptr 1 0)),(2,AV.one (Cl.ptr 2 0)),zz0,(4,AV.one (Cl.ptr 4 0)),(zz12 k),(zz13 k),(zz18 k),(16,aJ (((((s.run k).2.length:Nat):Int))))],(zz17 k)⟩,fun u8:Unit=>0⟩ Ann.leaf fun u8=>(Ann.cut ⟨Bool,fun fr:Bool=>fr=ctxB (s.run k).2,fun fr:Bool=>⟨[(1,AV.one (Cl.ptr 1 0)),(2,AV.one (Cl.ptr 2 0)),zz0,(4,AV.one (Cl.ptr 4 0)),(zz12 k),(zz13 k),(zz18 k),(17,AV.one (Cl.d (dQ fr)))],(zz17 k)⟩,fun fr:Bool=>0⟩ Ann.leaf fun fr=>(Ann.cut ⟨Oq,fun o:Oq=>o=gOp (rwAt s.rxs (k*11)) (decide (modS (rwAt s.rxs (k*11)).k 8 < 3)) s.ims.length s.c (ctxB (s.run k).2) s.most,fun o:Oq=>⟨[(1,AV.one (Cl.ptr 1 0)),(2,AV.one (Cl.ptr 2 0)),zz0,(4,AV.one (Cl.ptr 4 0)),(zz12 k),(zz13 k),(18,AV.one (Cl.ptr 18 0))],[zz2,zz3,(zz14 k),(zz15 k),(18,bC [cJ (o.kind),cJ (o.image),cJ (o.x),cJ (o.y),cJ (o.mask),cJ (o.mx),cJ (o.my),cK (o.opac),cJ (o.oper),cJ (o.mode),Cl.d (dQ o.iso),Cl.d (dQ o.kno)]),zz8,zz9,(zz16 k)]⟩,fun o:Oq=>0⟩ Ann.leaf fun o=>Ann.leaf))))) Ann.leaf)))) fun u7=>(Ann.seq (Ann.seq Ann.leaf (Ann.loop ⟨Nat,fun j=>j≤(s.run (min s.rn 9)).2.length,fun j=>⟨[(2,AV.one (Cl.ptr 2 0)),(4,AV.one (Cl.ptr 4 0)),zz10,(19,aJ (((j:Int))))],[zz3,(4,bC [cJ (s.bits),cJ (s.c.a),cJ (s.c.b),cJ (s.c.c),cJ (s.c.d),cJ (s.gtw),cJ (s.gth),Cl.ref 7000 s.ord.length,Cl.ref 5000 s.ims.length,Cl.ref 5001 (((s.run (min s.rn 9)).1++List.replicate j popO).length)]),zz11,zz8,zz9,(5001,Bx.row 55 12 (ops ((s.run (min s.rn 9)).1++List.replicate j popO)))]⟩,fun j=>(s.run (min s.rn 9)).2.length - j⟩ fun j=>Ann.leaf)) Ann.leaf)))))))))))))))
theorem jZN (s:Scn):vcg Try.prog jVL ⟨221,fun _=>false,List.range 0,false⟩ (zQl Try.f9) (zV9 s) kn0 (zZq [AV.agg [Cl.d (DV.int .i64 s.b),Cl.d (DV.int .i64 s.x),Cl.d (DV.int .i64 s.y),Cl.d (DV.int .i64 s.w),Cl.d (DV.int .i64 s.h),Cl.d (DV.int .i64 s.tw),Cl.d (DV.int .i64 s.th),Cl.d (DV.sl s.on s.oxs),Cl.d (DV.sl s.pn s.pxs),Cl.d (DV.sl s.rn s.rxs)]] []) (zXg Try.prog ⟨221,fun _=>false,List.range 0,false⟩ Try.f9.results.toList ⟨AV.agg [Cl.d (DV.int .i64 ((s).bits)),Cl.d (DV.int .i64 ((s).c.a)),Cl.d (DV.int .i64 ((s).c.b)),Cl.d (DV.int .i64 ((s).c.c)),Cl.d (DV.int .i64 ((s).c.d)),Cl.d (DV.int .i64 ((s).gtw)),Cl.d (DV.int .i64 ((s).gth)),Cl.ref 0 ((s).ord.length),Cl.ref 1 ((s).ims.length),Cl.ref 2 ((s).ops.length)],[Bx.row 3 1 (is (s).ord),Bx.row 43 28 (ims (s).ims),Bx.row 55 12 (ops (s).ops)],false⟩) =
  (let zz0:=((0=0)∧(0=0)∧(dK (gMax s.b)=dK s.most)∧(0=0)∧True); let zz1:=[dJ s.b,dJ s.x,dJ s.y,dJ s.w,dJ s.h,dJ s.tw,dJ s.th,dS s.on s.oxs,dS s.pn s.pxs,dS s.rn s.rxs]; let zz2:=(zz1=zz1); let zz3:=(dJ 0=dJ 0); let zz4:=(zz3∧zz3∧zz3∧zz3∧zz3∧zz3∧zz3∧tU3 (True)); let zz5:=(dK s.most=dK s.most); let zz6:=(dJ s.bits=dJ s.bits); let zz7:=(dJ s.gw=dJ s.gw); let zz8:=(dJ s.gh=dJ s.gh); let zz9:=((0=0)∧(0=0)∧zz5∧(0=0)∧zz7∧zz8∧True); let zz10:=(dJ s.c.a=dJ s.c.a); let zz11:=(dJ s.c.b=dJ s.c.b); let zz12:=[dJ s.c.a,dJ s.c.b,dJ s.c.c,dJ s.c.d]; let zz13:=(wK (((cntS s.c s.gtw s.gth).1)*((cntS s.c s.gtw s.gth).2.1))); let zz14:=(dJ s.c.c=dJ s.c.c); let zz15:=(dJ s.c.d=dJ s.c.d); let zz16:=(dJ s.gtw=dJ s.gtw); let zz17:=(dJ s.gth=dJ s.gth); let zz18:=(s.ord.length=s.ord.length); let zz19:=fun (p:Nat)=>(zz9∧(zz2∧zz4∧(zz6∧zz10∧zz11∧zz14∧zz15∧zz16∧zz17∧zz18∧(p=(s.pics (min s.pn 4)).length)∧True∧True)∧(is s.ord=is s.ord)∧(ims (s.pics p)=ims (s.pics (min s.pn 4)))∧True)); let zz20:=((Im.ds (zQa s.gw s.gh ⟨s.most,(0:Int),(0:Int),s.most,s.most⟩))); let zz21:=((0=0)∧(0=0)∧zz5∧(0=0)∧True); let zz22:=(s.ims.length=s.ims.length); let zz23:=fun (k:Nat)=>(0≤(k:Int)∧(k:Int) < (s.rn:Int)∧(k:Int).toNat*11 < s.rxs.length); let zz24:=fun (k:Nat)=>fun (k':Nat)=>(min s.rn 9 - k' < min s.rn 9 - k); let zz25:=fun (k:Nat)=>fun (k':Nat)=>(dJ (wK ((k:Int)+(1:Int)))=dJ (k':Int)); let zz26:=fun (k:Nat)=>fun (k':Nat)=>(zz6∧zz10∧zz11∧zz14∧zz15∧zz16∧zz17∧zz18∧zz22∧(((s.run k).1.length)+1=(s.run k').1.length)∧True); let zz27:=fun (k:Nat)=>((s.run k).2.length=(s.run k).2.length); let zz28:=fun (k:Nat)=>(dJ (k:Int)=dJ (k:Int)); let zz29:=fun (k:Nat)=>(dJ (modS (nAt s.rxs ((k:Int).toNat*11+0)) (8:Int))=dJ (modS (nAt s.rxs ((k:Int).toNat*11+0)) (8:Int))); let zz30:=fun (k:Nat)=>(zz6∧zz10∧zz11∧zz14∧zz15∧zz16∧zz17∧zz18∧zz22∧((s.run k).1.length=(s.run k).1.length)∧True); let zz31:=fun (k:Nat)=>(ops (s.run k).2=ops (s.run k).2); let zz32:=fun (k:Nat)=>(ops (s.run k).1=ops (s.run k).1); let zz33:=fun (k:Nat)=>(zz2∧zz4∧(zz30 k)∧(zz31 k)∧(is s.ord=is s.ord)∧(ims s.ims=ims s.ims)∧(zz32 k)∧True); let zz34:=fun (k:Nat)=>(((0=0)∧(0=0)∧zz5∧(0=0)∧(zz27 k)∧(zz28 k)∧(zz29 k)∧(dJ (((s.run k).2.length:Nat):Int)=dJ (((s.run k).2.length:Nat):Int))∧True)∧(zz33 k)); let zz35:=fun (k:Nat)=>(0≤wK ((((s.run k).2.length:Nat):Int) - (1:Int))∧wK ((((s.run k).2.length:Nat):Int) - (1:Int)) < (((s.run k).2.length:Nat):Int)); let zz36:=fun (k:Nat)=>fun (o:Oq)=>(o=gOp (rwAt s.rxs (k*11)) (decide (modS (rwAt s.rxs (k*11)).k 8 < 3)) s.ims.length s.c (ctxB (s.run k).2) s.most); let zz37:=fun (k:Nat)=>fun (k':Nat)=>fun (o:Oq)=>((ops (s.run k).1)++((Oq.cells (o)))=ops (s.run k').1); let zz38:=fun (k:Nat)=>(((0=0)∧(0=0)∧((s.run k).2.length=(s.run (min s.rn 9)).2.length)∧True)∧(zz4∧(zz6∧zz10∧zz11∧zz14∧zz15∧zz16∧zz17∧zz18∧zz22∧((s.run k).1.length=(s.run (min s.rn 9)).1.length)∧True)∧(ops (s.run k).2=ops (s.run (min s.rn 9)).2)∧(is s.ord=is s.ord)∧(ims s.ims=ims s.ims)∧(ops (s.run k).1=ops (s.run (min s.rn 9)).1)∧True)); let zz39:=fun (j:Nat)=>(j≤(s.run (min s.rn 9)).2.length); let zz40:=((s.run (min s.rn 9)).2.length=(s.run (min s.rn 9)).2.length); let zz41:=(ops (s.run (min s.rn 9)).2=ops (s.run (min s.rn 9)).2); tU4 ((Ans Try.prog 23 [rJ (s.b)] (RV.d (dK (gMax s.b))))∧tU4 ((tU2 ((((decide ((gMax s.b) > (255:Int)))=true→tU2 (∃ u1:Unit,True∧(zz0∧(zz2∧zz4∧((dJ 16=dJ s.bits)∧zz3∧zz3∧zz3∧zz3∧zz3∧zz3∧tU3 (True))∧True))))∧((decide ((gMax s.b) > (255:Int)))=false→∃ u1:Unit,True∧(zz0∧(zz2∧zz4∧((dJ 8=dJ s.bits)∧zz3∧zz3∧zz3∧zz3∧zz3∧zz3∧tU3 (True))∧True))))))∧∀ u1:Unit,(True)→tU2 ((Ans Try.prog 16 [rJ (s.x),rJ (13)] (rJ ((modS s.x (13:Int)))))∧tU3 ((Ans Try.prog 16 [rJ (s.y),rJ (13)] (rJ ((modS s.y (13:Int)))))∧tU3 ((true=true)∧(tU2 ((Ans Try.prog 16 [rJ (s.w),rJ (5)] (rJ ((modS s.w (5:Int)))))∧tU3 ((Ans Try.prog 16 [rJ (s.h),rJ (4)] (rJ ((modS s.h (4:Int)))))∧tU3 ((true=true)∧∃ u2:Unit,True∧(((0=0)∧(0=0)∧zz5∧(0=0)∧(dJ (wK ((modS s.x (13:Int)) - (6:Int)))=dJ s.c.a)∧(dJ (wK ((modS s.y (13:Int)) - (6:Int)))=dJ s.c.b)∧(dJ (wK ((1:Int)+(modS s.w (5:Int))))=dJ s.gw)∧(dJ (wK ((1:Int)+(modS s.h (4:Int))))=dJ s.gh)∧True)∧(zz2∧zz4∧(zz6∧zz3∧zz3∧zz3∧zz3∧zz3∧zz3∧tU3 (True))∧True))))))∧∀ u2:Unit,(True)→tU3 (tU8 ((tU3 ((Ans Try.prog 16 [rJ (s.tw),rJ (s.gw)] (rJ ((modS s.tw s.gw))))∧tU4 ((Ans Try.prog 16 [rJ (s.th),rJ (s.gh)] (rJ ((modS s.th s.gh))))∧tU5 ((true=true)∧∃ u3:Unit,True∧(zz9∧(zz2∧zz4∧(zz6∧zz10∧zz11∧(dJ (wK (s.c.a+s.gw))=dJ s.c.c)∧(dJ (wK (s.c.b+s.gh))=dJ s.c.d)∧(dJ (wK ((1:Int)+(modS s.tw s.gw)))=dJ s.gtw)∧(dJ (wK ((1:Int)+(modS s.th s.gh)))=dJ s.gth)∧tU3 (True))∧True))))))∧∀ u3:Unit,(True)→tU6 ((Ans Try.prog 24 [RV.agg zz12,rJ (s.gtw),rJ (s.gth)] (RV.tup [rJ (((cntS s.c s.gtw s.gth).1)),rJ (((cntS s.c s.gtw s.gth).2.1)),RV.d (dQ ((cntS s.c s.gtw s.gth).2.2))]))∧tU7 ((tU5 ((AnsO Try.prog 25 [RV.d (dS s.on s.oxs),rJ (zz13)] 3 1 ((zZO (ints s.oxs) zz13).length) (is (zZO (ints s.oxs) zz13)))∧tU2 (∃ u4:Unit,True∧(zz9∧(zz2∧zz4∧(zz6∧zz10∧zz11∧zz14∧zz15∧zz16∧zz17∧((zZO (ints s.oxs) zz13).length=s.ord.length)∧tU2 (True))∧(is (zZO (ints s.oxs) zz13)=is s.ord)∧True)))))∧∀ u4:Unit,(True)→(True∧((∃ p:Nat,(p≤min s.pn 4)∧(((0=0)∧(0=0)∧zz5∧(0=0)∧zz7∧zz8∧(dJ 0=dJ (p:Int))∧True)∧(zz2∧zz4∧(zz6∧zz10∧zz11∧zz14∧zz15∧zz16∧zz17∧zz18∧(0=p)∧True∧True)∧(is s.ord=is s.ord)∧([]=ims (s.pics p))∧True)))∧∀ p:Nat,(p≤min s.pn 4)→tU6 ((((decide ((p:Int) < (s.pn:Int)))=true→tU3 ((((decide ((p:Int) < (4:Int)))=true→tU5 ((0≤(p:Int)∧(p:Int) < (s.pn:Int)∧(p:Int).toNat*5 < s.pxs.length)∧((s.pxs[(p:Int).toNat*5]?=some (dJ (nAt s.pxs ((p:Int).toNat*5))))∧(s.pxs[(p:Int).toNat*5+1]?=some (dJ (nAt s.pxs ((p:Int).toNat*5+1))))∧(s.pxs[(p:Int).toNat*5+1+1]?=some (dJ (nAt s.pxs ((p:Int).toNat*5+1+1))))∧(s.pxs[(p:Int).toNat*5+1+1+1]?=some (dJ (nAt s.pxs ((p:Int).toNat*5+1+1+1))))∧(s.pxs[(p:Int).toNat*5+1+1+1+1]?=some (dS (lAt s.pxs ((p:Int).toNat*5+1+1+1+1)) (cAt s.pxs ((p:Int).toNat*5+1+1+1+1))))∧True)∧tU3 ((Ans Try.prog 26 [RV.agg [dJ (nAt s.pxs ((p:Int).toNat*5)),dJ (nAt s.pxs ((p:Int).toNat*5+1)),dJ (nAt s.pxs ((p:Int).toNat*5+1+1)),dJ (nAt s.pxs ((p:Int).toNat*5+1+1+1)),dS (lAt s.pxs ((p:Int).toNat*5+1+1+1+1)) (cAt s.pxs ((p:Int).toNat*5+1+1+1+1))],RV.agg zz12,RV.d (dK s.most)] ((imR (zQg (nAt s.pxs ((p:Int).toNat*5)) (nAt s.pxs ((p:Int).toNat*5+1)) (nAt s.pxs ((p:Int).toNat*5+1+1)) (nAt s.pxs ((p:Int).toNat*5+1+1+1)) (lAt s.pxs ((p:Int).toNat*5+1+1+1+1)) (cAt s.pxs ((p:Int).toNat*5+1+1+1+1)) s.c.a s.c.b s.c.c s.c.d s.most))))∧True∧(zQ8 28 272 p 1 (ims (s.pics p)) ((Im.ds (zQg (nAt s.pxs ((p:Int).toNat*5)) (nAt s.pxs ((p:Int).toNat*5+1)) (nAt s.pxs ((p:Int).toNat*5+1+1)) (nAt s.pxs ((p:Int).toNat*5+1+1+1)) (lAt s.pxs ((p:Int).toNat*5+1+1+1+1)) (cAt s.pxs ((p:Int).toNat*5+1+1+1+1)) s.c.a s.c.b s.c.c s.c.d s.most))))∧tU2 ((true=true)∧tU3 (∃ p':Nat,(p'≤min s.pn 4)∧(min s.pn 4 - p' < min s.pn 4 - p)∧(((0=0)∧(0=0)∧zz5∧(0=0)∧zz7∧zz8∧(dJ (wK ((p:Int)+(1:Int)))=dJ (p':Int))∧True)∧(zz2∧zz4∧(zz6∧zz10∧zz11∧zz14∧zz15∧zz16∧zz17∧zz18∧(p+1=p')∧True∧True)∧(is s.ord=is s.ord)∧((ims (s.pics p))++((Im.ds (zQg (nAt s.pxs ((p:Int).toNat*5)) (nAt s.pxs ((p:Int).toNat*5+1)) (nAt s.pxs ((p:Int).toNat*5+1+1)) (nAt s.pxs ((p:Int).toNat*5+1+1+1)) (lAt s.pxs ((p:Int).toNat*5+1+1+1+1)) (cAt s.pxs ((p:Int).toNat*5+1+1+1+1)) s.c.a s.c.b s.c.c s.c.d s.most)))=ims (s.pics p'))∧True)))))))∧((decide ((p:Int) < (4:Int)))=false→∃ u6:Unit,True∧(zz19 p)))))∧((decide ((p:Int) < (s.pn:Int)))=(!true)→True∧∃ u6:Unit,True∧(zz19 p))))))∧∀ u6:Unit,(True)→(tU2 (((s.pics (min s.pn 4)).length≤maxLen)∧True∧((((((s.pics (min s.pn 4)).length:Nat):Int)==(0:Int))=true→True∧tU8 ((Ans Try.prog 27 [rJ (s.gw),rJ (s.gh),RV.agg [dK s.most,dK 0,dK 0,dK s.most,dK s.most]] ((imR (zQa s.gw s.gh ⟨s.most,(0:Int),(0:Int),s.most,s.most⟩))))∧True∧(zQ8 28 272 ((s.pics (min s.pn 4)).length) 1 (ims (s.pics (min s.pn 4))) zz20)∧tU2 ((true=true)∧∃ u5:Unit,True∧(zz21∧(zz2∧zz4∧(zz6∧zz10∧zz11∧zz14∧zz15∧zz16∧zz17∧zz18∧(((s.pics (min s.pn 4)).length)+1=s.ims.length)∧True∧True)∧(is s.ord=is s.ord)∧((ims (s.pics (min s.pn 4)))++zz20=ims s.ims)∧True)))))∧(((((s.pics (min s.pn 4)).length:Nat):Int)==(0:Int))=false→∃ u5:Unit,True∧(zz21∧(zz2∧zz4∧(zz6∧zz10∧zz11∧zz14∧zz15∧zz16∧zz17∧zz18∧((s.pics (min s.pn 4)).length=s.ims.length)∧True∧True)∧(is s.ord=is s.ord)∧(ims (s.pics (min s.pn 4))=ims s.ims)∧True))))))∧∀ u5:Unit,(True)→True∧(True∧((∃ k:Nat,(k≤min s.rn 9)∧(((0=0)∧(0=0)∧zz5∧(0=0)∧(0=(s.run k).2.length)∧(dJ 0=dJ (k:Int))∧True)∧(zz2∧zz4∧(zz6∧zz10∧zz11∧zz14∧zz15∧zz16∧zz17∧zz18∧zz22∧(0=(s.run k).1.length)∧True)∧([]=ops (s.run k).2)∧(is s.ord=is s.ord)∧(ims s.ims=ims s.ims)∧([]=ops (s.run k).1)∧True)))∧∀ k:Nat,(k≤min s.rn 9)→tU6 ((((decide ((k:Int) < (s.rn:Int)))=true→tU3 ((((decide ((k:Int) < (9:Int)))=true→tU3 ((zz23 k)∧True∧((s.rxs[(k:Int).toNat*11+0]?=some (dJ (nAt s.rxs ((k:Int).toNat*11+0))))∧True)∧(Ans Try.prog 16 [rJ ((nAt s.rxs ((k:Int).toNat*11+0))),rJ (8)] (rJ ((modS (nAt s.rxs ((k:Int).toNat*11+0)) (8:Int)))))∧tU2 (((s.run k).2.length≤maxLen)∧True∧(tU3 (((((modS (nAt s.rxs ((k:Int).toNat*11+0)) (8:Int))==(0:Int))=true→tU3 ((((decide ((((s.run k).2.length:Nat):Int) > (0:Int)))=true→tU4 ((zQ8 12 88 ((s.run k).1.length) 1 (ops (s.run k).1) ([dJ 3,dJ 0,dJ 0,dJ 0,dJ 0,dJ 0,dJ 0,dK 0,dJ 0,dJ 0,dQ false,dQ false]))∧tU5 ((0≤wK ((((s.run k).2.length:Nat):Int) - (1:Int))∧wK ((((s.run k).2.length:Nat):Int) - (1:Int))≤(((s.run k).2.length:Nat):Int))∧tU4 (∃ k':Nat,(k'≤min s.rn 9)∧(zz24 k k')∧(((0=0)∧(0=0)∧zz5∧(0=0)∧((wK ((((s.run k).2.length:Nat):Int) - (1:Int))).toNat=(s.run k').2.length)∧(zz25 k k')∧True)∧(zz2∧zz4∧(zz26 k k')∧(List.take ((wK ((((s.run k).2.length:Nat):Int) - (1:Int))).toNat*12) (ops (s.run k).2)=ops (s.run k').2)∧(is s.ord=is s.ord)∧(ims s.ims=ims s.ims)∧((ops (s.run k).1)++([dJ 3,dJ 0,dJ 0,dJ 0,dJ 0,dJ 0,dJ 0,dK 0,dJ 0,dJ 0,dQ false,dQ false])=ops (s.run k').1)∧True))))))∧((decide ((((s.run k).2.length:Nat):Int) > (0:Int)))=false→∃ u8:Unit,(¬ (modS (rwAt s.rxs (k*11)).k 8=0∧0 < (s.run k).2.length))∧(zz34 k)))))∧(((modS (nAt s.rxs ((k:Int).toNat*11+0)) (8:Int))==(0:Int))=(!true)→True∧∃ u8:Unit,(¬ (modS (rwAt s.rxs (k*11)).k 8=0∧0 < (s.run k).2.length))∧(zz34 k)))))∧∀ u8:Unit,(¬ (modS (rwAt s.rxs (k*11)).k 8=0∧0 < (s.run k).2.length))→(tU3 (((((((s.run k).2.length:Nat):Int)==(0:Int))=false→tU3 ((zz35 k)∧True∧(((ops (s.run k).2)[(wK ((((s.run k).2.length:Nat):Int) - (1:Int))).toNat*12+10]?=some (dQ (bAt (ops (s.run k).2) ((wK ((((s.run k).2.length:Nat):Int) - (1:Int))).toNat*12+10))))∧True)∧True∧(((bAt (ops (s.run k).2) ((wK ((((s.run k).2.length:Nat):Int) - (1:Int))).toNat*12+10))=true→tU3 ((zz35 k)∧True∧(((ops (s.run k).2)[(wK ((((s.run k).2.length:Nat):Int) - (1:Int))).toNat*12+11]?=some (dQ (bAt (ops (s.run k).2) ((wK ((((s.run k).2.length:Nat):Int) - (1:Int))).toNat*12+11))))∧True)∧tU4 (∃ fr:Bool,(fr=ctxB (s.run k).2)∧(((0=0)∧(0=0)∧zz5∧(0=0)∧(zz27 k)∧(zz28 k)∧(zz29 k)∧(dQ (!(bAt (ops (s.run k).2) ((wK ((((s.run k).2.length:Nat):Int) - (1:Int))).toNat*12+11)))=dQ fr)∧True)∧(zz33 k)))))∧((bAt (ops (s.run k).2) ((wK ((((s.run k).2.length:Nat):Int) - (1:Int))).toNat*12+10))=(!true)→tU3 (∃ fr:Bool,(fr=ctxB (s.run k).2)∧(((0=0)∧(0=0)∧zz5∧(0=0)∧(zz27 k)∧(zz28 k)∧(zz29 k)∧(dQ false=dQ fr)∧True)∧(zz33 k)))))))∧(((((s.run k).2.length:Nat):Int)==(0:Int))=(!false)→tU2 (∃ fr:Bool,(fr=ctxB (s.run k).2)∧(((0=0)∧(0=0)∧zz5∧(0=0)∧(zz27 k)∧(zz28 k)∧(zz29 k)∧(dQ true=dQ fr)∧True)∧(zz33 k)))))))∧∀ fr:Bool,(fr=ctxB (s.run k).2)→(tU3 ((zz23 k)∧((s.rxs[(k:Int).toNat*11]?=some (dJ (nAt s.rxs ((k:Int).toNat*11))))∧(s.rxs[(k:Int).toNat*11+1]?=some (dJ (nAt s.rxs ((k:Int).toNat*11+1))))∧(s.rxs[(k:Int).toNat*11+1+1]?=some (dJ (nAt s.rxs ((k:Int).toNat*11+1+1))))∧(s.rxs[(k:Int).toNat*11+1+1+1]?=some (dJ (nAt s.rxs ((k:Int).toNat*11+1+1+1))))∧(s.rxs[(k:Int).toNat*11+1+1+1+1]?=some (dJ (nAt s.rxs ((k:Int).toNat*11+1+1+1+1))))∧(s.rxs[(k:Int).toNat*11+1+1+1+1+1]?=some (dJ (nAt s.rxs ((k:Int).toNat*11+1+1+1+1+1))))∧(s.rxs[(k:Int).toNat*11+1+1+1+1+1+1]?=some (dJ (nAt s.rxs ((k:Int).toNat*11+1+1+1+1+1+1))))∧(s.rxs[(k:Int).toNat*11+1+1+1+1+1+1+1]?=some (dJ (nAt s.rxs ((k:Int).toNat*11+1+1+1+1+1+1+1))))∧(s.rxs[(k:Int).toNat*11+1+1+1+1+1+1+1+1]?=some (dJ (nAt s.rxs ((k:Int).toNat*11+1+1+1+1+1+1+1+1))))∧(s.rxs[(k:Int).toNat*11+1+1+1+1+1+1+1+1+1]?=some (dJ (nAt s.rxs ((k:Int).toNat*11+1+1+1+1+1+1+1+1+1))))∧(s.rxs[(k:Int).toNat*11+1+1+1+1+1+1+1+1+1+1]?=some (dJ (nAt s.rxs ((k:Int).toNat*11+1+1+1+1+1+1+1+1+1+1))))∧True)∧tU4 ((s.ims.length≤maxLen)∧tU4 ((Ans Try.prog 28 [RV.agg [dJ (nAt s.rxs ((k:Int).toNat*11)),dJ (nAt s.rxs ((k:Int).toNat*11+1)),dJ (nAt s.rxs ((k:Int).toNat*11+1+1)),dJ (nAt s.rxs ((k:Int).toNat*11+1+1+1)),dJ (nAt s.rxs ((k:Int).toNat*11+1+1+1+1)),dJ (nAt s.rxs ((k:Int).toNat*11+1+1+1+1+1)),dJ (nAt s.rxs ((k:Int).toNat*11+1+1+1+1+1+1)),dJ (nAt s.rxs ((k:Int).toNat*11+1+1+1+1+1+1+1)),dJ (nAt s.rxs ((k:Int).toNat*11+1+1+1+1+1+1+1+1)),dJ (nAt s.rxs ((k:Int).toNat*11+1+1+1+1+1+1+1+1+1)),dJ (nAt s.rxs ((k:Int).toNat*11+1+1+1+1+1+1+1+1+1+1))],RV.d (dQ (decide ((modS (nAt s.rxs ((k:Int).toNat*11+0)) (8:Int)) < (3:Int)))),rJ ((s.ims.length:Int)),RV.agg zz12,RV.d (dQ fr),RV.d (dK s.most)] (RV.agg (Oq.cells (gOp ⟨(nAt s.rxs ((k:Int).toNat*11)),(nAt s.rxs ((k:Int).toNat*11+1)),(nAt s.rxs ((k:Int).toNat*11+1+1)),(nAt s.rxs ((k:Int).toNat*11+1+1+1)),(nAt s.rxs ((k:Int).toNat*11+1+1+1+1)),(nAt s.rxs ((k:Int).toNat*11+1+1+1+1+1)),(nAt s.rxs ((k:Int).toNat*11+1+1+1+1+1+1)),(nAt s.rxs ((k:Int).toNat*11+1+1+1+1+1+1+1)),(nAt s.rxs ((k:Int).toNat*11+1+1+1+1+1+1+1+1)),(nAt s.rxs ((k:Int).toNat*11+1+1+1+1+1+1+1+1+1)),(nAt s.rxs ((k:Int).toNat*11+1+1+1+1+1+1+1+1+1+1))⟩ (decide ((modS (nAt s.rxs ((k:Int).toNat*11+0)) (8:Int)) < (3:Int))) (s.ims.length:Int) s.c fr s.most))))∧tU2 ((true=true)∧∃ o:Oq,(zz36 k o)∧(((0=0)∧(0=0)∧zz5∧(0=0)∧(zz27 k)∧(zz28 k)∧(0=0)∧True)∧(zz2∧zz4∧(zz30 k)∧(zz31 k)∧((Oq.cells (gOp ⟨(nAt s.rxs ((k:Int).toNat*11)),(nAt s.rxs ((k:Int).toNat*11+1)),(nAt s.rxs ((k:Int).toNat*11+1+1)),(nAt s.rxs ((k:Int).toNat*11+1+1+1)),(nAt s.rxs ((k:Int).toNat*11+1+1+1+1)),(nAt s.rxs ((k:Int).toNat*11+1+1+1+1+1)),(nAt s.rxs ((k:Int).toNat*11+1+1+1+1+1+1)),(nAt s.rxs ((k:Int).toNat*11+1+1+1+1+1+1+1)),(nAt s.rxs ((k:Int).toNat*11+1+1+1+1+1+1+1+1)),(nAt s.rxs ((k:Int).toNat*11+1+1+1+1+1+1+1+1+1)),(nAt s.rxs ((k:Int).toNat*11+1+1+1+1+1+1+1+1+1+1))⟩ (decide ((modS (nAt s.rxs ((k:Int).toNat*11+0)) (8:Int)) < (3:Int))) (s.ims.length:Int) s.c fr s.most))=(Oq.cells (o)))∧(is s.ord=is s.ord)∧(ims s.ims=ims s.ims)∧(zz32 k)∧True)))))))∧∀ o:Oq,(zz36 k o)→tU4 ((zQ8 12 88 ((s.run k).1.length) 1 (ops (s.run k).1) ((Oq.cells (o))))∧tU5 ((((o.kind==(2:Int))=true→tU3 ((zQ8 12 88 ((s.run k).2.length) 1 (ops (s.run k).2) ((Oq.cells (o))))∧tU4 (∃ k':Nat,(k'≤min s.rn 9)∧(zz24 k k')∧(((0=0)∧(0=0)∧zz5∧(0=0)∧(((s.run k).2.length)+1=(s.run k').2.length)∧(zz25 k k')∧True)∧(zz2∧zz4∧(zz26 k k')∧((ops (s.run k).2)++((Oq.cells (o)))=ops (s.run k').2)∧(is s.ord=is s.ord)∧(ims s.ims=ims s.ims)∧(zz37 k k' o)∧True)))))∧((o.kind==(2:Int))=false→tU3 (∃ k':Nat,(k'≤min s.rn 9)∧(zz24 k k')∧(((0=0)∧(0=0)∧zz5∧(0=0)∧((s.run k).2.length=(s.run k').2.length)∧(zz25 k k')∧True)∧(zz2∧zz4∧(zz26 k k')∧(ops (s.run k).2=ops (s.run k').2)∧(is s.ord=is s.ord)∧(ims s.ims=ims s.ims)∧(zz37 k k' o)∧True))))))))))∧((decide ((k:Int) < (9:Int)))=false→∃ u7:Unit,True∧(zz38 k)))))∧((decide ((k:Int) < (s.rn:Int)))=(!true)→True∧∃ u7:Unit,True∧(zz38 k))))))∧∀ u7:Unit,(True)→True∧((∃ j:Nat,(zz39 j)∧(((0=0)∧(0=0)∧zz40∧(dJ 0=dJ (j:Int))∧True)∧(zz4∧(zz6∧zz10∧zz11∧zz14∧zz15∧zz16∧zz17∧zz18∧zz22∧((s.run (min s.rn 9)).1.length=((s.run (min s.rn 9)).1++List.replicate j popO).length)∧True)∧zz41∧(is s.ord=is s.ord)∧(ims s.ims=ims s.ims)∧(ops (s.run (min s.rn 9)).1=ops ((s.run (min s.rn 9)).1++List.replicate j popO))∧True)))∧∀ j:Nat,(zz39 j)→tU2 (((s.run (min s.rn 9)).2.length≤maxLen)∧True∧(((decide ((j:Int) < (((s.run (min s.rn 9)).2.length:Nat):Int)))=true→tU4 ((zQ8 12 88 (((s.run (min s.rn 9)).1++List.replicate j popO).length) 1 (ops ((s.run (min s.rn 9)).1++List.replicate j popO)) ([dJ 3,dJ 0,dJ 0,dJ 0,dJ 0,dJ 0,dJ 0,dK 0,dJ 0,dJ 0,dQ false,dQ false]))∧tU5 (∃ j':Nat,(j'≤(s.run (min s.rn 9)).2.length)∧((s.run (min s.rn 9)).2.length - j' < (s.run (min s.rn 9)).2.length - j)∧(((0=0)∧(0=0)∧zz40∧(dJ (wK ((j:Int)+(1:Int)))=dJ (j':Int))∧True)∧(zz4∧(zz6∧zz10∧zz11∧zz14∧zz15∧zz16∧zz17∧zz18∧zz22∧((((s.run (min s.rn 9)).1++List.replicate j popO).length)+1=((s.run (min s.rn 9)).1++List.replicate j' popO).length)∧True)∧zz41∧(is s.ord=is s.ord)∧(ims s.ims=ims s.ims)∧((ops ((s.run (min s.rn 9)).1++List.replicate j popO))++([dJ 3,dJ 0,dJ 0,dJ 0,dJ 0,dJ 0,dJ 0,dK 0,dJ 0,dJ 0,dQ false,dQ false])=ops ((s.run (min s.rn 9)).1++List.replicate j' popO))∧True)))))∧((decide ((j:Int) < (((s.run (min s.rn 9)).2.length:Nat):Int)))=false→tU2 (((((dJ s.bits=dJ ((s).bits))∧(dJ s.c.a=dJ ((s).c.a))∧(dJ s.c.b=dJ ((s).c.b))∧(dJ s.c.c=dJ ((s).c.c))∧(dJ s.c.d=dJ ((s).c.d))∧(dJ s.gtw=dJ ((s).gtw))∧(dJ s.gth=dJ ((s).gth))∧(s.ord.length=(s).ord.length)∧(s.ims.length=(s).ims.length)∧(((s.run (min s.rn 9)).1++List.replicate j popO).length=(s).ops.length)∧True)∧True)∧((is s.ord=is (s).ord)∧(ims s.ims=ims (s).ims)∧(ops ((s.run (min s.rn 9)).1++List.replicate j popO)=ops (s).ops)∧True))∧zQx ⟨AV.agg [cJ (((s).bits)),cJ (((s).c.a)),cJ (((s).c.b)),cJ (((s).c.c)),cJ (((s).c.d)),cJ (((s).gtw)),cJ (((s).gth)),Cl.ref 0 ((s).ord.length),Cl.ref 1 ((s).ims.length),Cl.ref 2 ((s).ops.length)],[Bx.row 3 1 (is (s).ord),Bx.row 43 28 (ims (s).ims),Bx.row 55 12 (ops (s).ops)],false⟩))))))))))))))):=by kernel_rfl
theorem jQX (s:Scn) (hs:s.ok):AnsG Try.prog 9 0 [AV.agg [Cl.d (DV.int .i64 s.b),Cl.d (DV.int .i64 s.x),Cl.d (DV.int .i64 s.y),Cl.d (DV.int .i64 s.w),Cl.d (DV.int .i64 s.h),Cl.d (DV.int .i64 s.tw),Cl.d (DV.int .i64 s.th),Cl.d (DV.sl s.on s.oxs),Cl.d (DV.sl s.pn s.pxs),Cl.d (DV.sl s.rn s.rxs)]] [] ⟨AV.agg [Cl.d (DV.int .i64 ((s).bits)),Cl.d (DV.int .i64 ((s).c.a)),Cl.d (DV.int .i64 ((s).c.b)),Cl.d (DV.int .i64 ((s).c.c)),Cl.d (DV.int .i64 ((s).c.d)),Cl.d (DV.int .i64 ((s).gtw)),Cl.d (DV.int .i64 ((s).gth)),Cl.ref 0 ((s).ord.length),Cl.ref 1 ((s).ims.length),Cl.ref 2 ((s).ops.length)],[Bx.row 3 1 (is (s).ord),Bx.row 43 28 (ims (s).ims),Bx.row 55 12 (ops (s).ops)],false⟩:=
  zQR (Γ:=jVL) (zV9 s) zQq Try.func9 rfl (Nat.le_of_ble_eq_true rfl) rfl fun hwf hbx=>by
    refine Eq.mpr (jZN s) ?_
    delta tU2 tU3 tU4 tU5 tU6 tU7 tU8 dJ dK dQ cJ wK dS rJ
    simp only [true_and,and_true,RV.d.injEq,RV.agg.injEq,RV.tup.injEq,DV.bool.injEq,DV.int.injEq,DV.sl.injEq,List.cons.injEq,forall_const,Bool.not_false,Bool.not_true,Bool.not_eq_true',Bool.not_eq_false',decide_eq_true_eq,decide_eq_false_iff_not,Int.toNat_natCast,zQr,zVo]
    obtain ⟨⟨ho1,ho2⟩,⟨hp1,hp2⟩,⟨hr1,hr2⟩⟩:=hs
    obtain ⟨f1,f2,f3,f4,f5,f6⟩:=s.facts
    have CF:=s.c_facts
    have w1:IntKind.wrap .i64 (modS s.x 13 - 6)=s.c.a:=IntWalk.i64_in _ ⟨by omega,by omega⟩
    have w2:IntKind.wrap .i64 (modS s.y 13 - 6)=s.c.b:=IntWalk.i64_in _ ⟨by omega,by omega⟩
    have g1:s.gw=1+modS s.w 5:=rfl
    have g2:s.gh=1+modS s.h 4:=rfl
    have g3:s.gtw=1+modS s.tw s.gw:=rfl
    have g4:s.gth=1+modS s.th s.gh:=rfl
    have w3:IntKind.wrap .i64 (1+modS s.w 5)=s.gw:=IntWalk.i64_in _ ⟨by omega,by omega⟩
    have w4:IntKind.wrap .i64 (1+modS s.h 4)=s.gh:=IntWalk.i64_in _ ⟨by omega,by omega⟩
    have w5:IntKind.wrap .i64 (s.c.a+s.gw)=s.c.c:=by rw [IntWalk.i64_in _ ⟨by omega,by omega⟩]; omega
    have w6:IntKind.wrap .i64 (s.c.b+s.gh)=s.c.d:=by rw [IntWalk.i64_in _ ⟨by omega,by omega⟩]; omega
    have w7:IntKind.wrap .i64 (1+modS s.tw s.gw)=s.gtw:=IntWalk.i64_in _ ⟨by omega,by omega⟩
    have w8:IntKind.wrap .i64 (1+modS s.th s.gh)=s.gth:=IntWalk.i64_in _ ⟨by omega,by omega⟩
    have hm:=s.tiles_in
    have hM:∀ n:Nat,n≤100→n≤maxLen:=fun n h=>by unfold maxLen; omega
    have li:=s.ims_len
    have lk:=fun k=>s.run_len k
    have pq:1≤s.c.c - s.c.a∧s.c.c - s.c.a≤100∧1≤s.c.d - s.c.b∧s.c.d - s.c.b≤100:=by omega
    have BI:=s.bits_of
    refine ⟨⟨fun h=>⟨(),rfl,BI.1 h⟩,fun h=>⟨(),rfl,BI.2 h⟩⟩,⟨(),w1,w2,w3,w4⟩,⟨(),w5,w6,w7,w8⟩,zHS _ _ _ _ _ _,⟨zVI _ _ _ ⟨ho1,ho2⟩ hm.1,(),rfl,rfl⟩,⟨⟨0,Nat.zero_le _,rfl,rfl,rfl⟩,fun p hp=>⟨fun h1=>⟨fun h2=>?_,fun h2=>?_⟩,fun h1=>?_⟩⟩,?_⟩
    · obtain ⟨q0,q1,q2,q3,q4,q5⟩:=hp2 p (by omega)
      refine ⟨⟨by omega,by omega,by omega⟩,⟨q0,q1,q2,q3,q4⟩,jQ0 _ _ _ _ _ _ _ _ _ _ _ q5 pq,⟨by rw [zZk,s.pics_len],by rw [Im.ds_len],hM _ (by omega),by omega⟩,p+1,by omega,by omega,zZZ (by omega),rfl,?_⟩
      rw [s.pics_succ,jXY,jK1]; rfl
    · have:p=min s.pn 4:=by omega
      subst this
      exact ⟨(),(s.pics_len _).symm,rfl⟩
    · have:p=min s.pn 4:=by omega
      subst this
      exact ⟨(),(s.pics_len _).symm,rfl⟩
    have lp:=s.pics_len (min s.pn 4)
    refine ⟨⟨hM _ (by omega),fun h=>?_,fun h=>?_⟩,⟨⟨0,Nat.zero_le _,⟨rfl,rfl⟩,rfl,rfl,rfl⟩,fun k hk=>⟨fun h1=>⟨fun h2=>?_,fun h2=>?_⟩,fun h1=>?_⟩⟩,?_⟩
    · have h0:min s.pn 4=0:=by rw [lp] at h; simpa using h
      have e1:s.ims=[s.solo]:=by unfold Scn.ims; rw [if_pos h0]
      have e2:s.pics (min s.pn 4)=[]:=by rw [h0]; rfl
      rw [e1,e2]
      exact ⟨zX2 s.gw s.gh ⟨_,_,_,_,_⟩,⟨by simp [ims],by simp [Im.ds],hM _ (by simp),by simp⟩,(),rfl,by simp [ims]; rfl⟩
    · have h0:¬ min s.pn 4=0:=by rw [lp] at h; simpa using h
      have e1:s.ims=s.pics (min s.pn 4):=by unfold Scn.ims; rw [if_neg h0]
      rw [e1]
      exact ⟨(),rfl,rfl⟩
    · have lk1:=(lk k).1
      have lk2:=(lk k).2
      have ro:=fun i (h:i < 11)=>hr2 (k*11+i) (by omega)
      have wl:0 < (s.run k).2.length→IntKind.wrap .i64 (((s.run k).2.length:Int) - 1)=(((s.run k).2.length - 1:Nat):Int):=fun h=>by rw [IntWalk.i64_in _ ⟨by omega,by omega⟩]; omega
      have ws:IntKind.wrap .i64 ((k:Int)+1)=((k+1:Nat):Int):=zZZ (by omega)
      refine ⟨⟨by omega,by omega,by omega⟩,ro 0 (by omega),hM _ (by omega),⟨fun a1=>⟨fun a2=>?_,fun a2=>⟨(),fun h=>a2 (by omega)⟩⟩,fun a1=>⟨(),fun h=>?_⟩⟩,fun hn=>⟨⟨fun a1=>?_,fun a1=>?_⟩,fun fr hfr=>⟨?_,fun o ho=>?_⟩⟩⟩
      · have a3:0 < (s.run k).2.length:=by omega
        have a4:modS (nAt s.rxs (k*11)) 8=0:=by simpa using a1
        have rp:=Scn.run_pop (s:=s) (k:=k) ⟨a4,a3⟩
        rw [wl a3]
        refine ⟨⟨by rw [zQY,lk1],rfl,hM _ (by omega),by omega⟩,⟨by omega,by omega⟩,k+1,by omega,by omega,⟨?_,ws⟩,?_,?_,?_⟩
        · rw [rp]; simp
        · rw [rp]; simp
        · rw [rp,Int.toNat_natCast,jZ7,List.dropLast_eq_take]
        · rw [rp,zYq,zUb]; rfl
      · have a4:¬ modS (nAt s.rxs (k*11)) 8=0:=by simpa using a1
        exact a4 h.1
      · have a3:0 < (s.run k).2.length:=by
          have:¬ (s.run k).2.length=0:=by simpa using a1
          omega
        have hl:(s.run k).2.length - 1 < (s.run k).2.length:=by omega
        have g10:(ops (s.run k).2)[((s.run k).2.length - 1)*12+10]?=some (.bool (s.run k).2[(s.run k).2.length - 1].iso):=zHe hl 10 (by omega)
        have g11:(ops (s.run k).2)[((s.run k).2.length - 1)*12+11]?=some (.bool (s.run k).2[(s.run k).2.length - 1].kno):=zHe hl 11 (by omega)
        have b10:bAt (ops (s.run k).2) (((s.run k).2.length - 1)*12+10)=(s.run k).2[(s.run k).2.length - 1].iso:=by simp only [bAt,g10]
        have b11:bAt (ops (s.run k).2) (((s.run k).2.length - 1)*12+11)=(s.run k).2[(s.run k).2.length - 1].kno:=by simp only [bAt,g11]
        rw [wl a3,Int.toNat_natCast,b10,b11,jJg a3]
        refine ⟨⟨by omega,by omega⟩,g10,fun h=>⟨⟨by omega,by omega⟩,g11,_,rfl,?_⟩,fun h=>⟨_,rfl,?_⟩⟩ <;> simp [h]
      · have a3:(s.run k).2.length=0:=by simpa using a1
        rw [List.length_eq_zero_iff.1 a3]
        exact ⟨_,rfl,rfl⟩
      · subst hfr
        refine ⟨⟨by omega,by omega,by omega⟩,⟨ro 0 (by omega),ro 1 (by omega),ro 2 (by omega),ro 3 (by omega),ro 4 (by omega),ro 5 (by omega),ro 6 (by omega),ro 7 (by omega),ro 8 (by omega),ro 9 (by omega),ro 10 (by omega)⟩,hM _ (by omega),jJ5 (rwAt s.rxs (k*11)) _ _ _ _ _ ⟨⟨by omega,by omega⟩,by omega,by omega⟩ ⟨by omega,by omega⟩,_,rfl,rfl⟩
      · obtain ⟨r1,r2⟩:=Scn.run_op (s:=s) (k:=k) hn ho
        clear ho
        refine ⟨⟨by rw [zQY,lk1],rfl,hM _ (by omega),by omega⟩,fun a1=>⟨⟨by rw [zQY],rfl,hM _ (by omega),by omega⟩,k+1,by omega,by omega,⟨?_,ws⟩,?_,?_,?_⟩,fun a1=>⟨k+1,by omega,by omega,⟨?_,ws⟩,?_,?_,?_⟩⟩
        · rw [r1 (by simpa using a1)]; simp
        · rw [r1 (by simpa using a1)]; simp
        · rw [r1 (by simpa using a1),zYq,zUb]
        · rw [r1 (by simpa using a1),zYq,zUb]
        · rw [r2 (by simpa using a1)]
        · rw [r2 (by simpa using a1)]; simp
        · rw [r2 (by simpa using a1)]
        · rw [r2 (by simpa using a1),zYq,zUb]
    · have:k=min s.rn 9:=by omega
      subst this
      exact ⟨(),rfl,rfl,rfl,rfl⟩
    · have:k=min s.rn 9:=by omega
      subst this
      exact ⟨(),rfl,rfl,rfl,rfl⟩
    · have e:s.ops=(s.run (min s.rn 9)).1++List.replicate (s.run (min s.rn 9)).2.length popO:=rfl
      have lr:=lk (min s.rn 9)
      rw [e]
      generalize s.run (min s.rn 9)=z at *
      refine ⟨⟨0,Nat.zero_le _,rfl,by simp,by simp⟩,fun j hj=>⟨hM _ (by omega),fun h=>?_,fun h=>?_⟩⟩
      · have e2:z.1++List.replicate (j+1) popO=(z.1++List.replicate j popO)++[popO]:=by rw [List.append_assoc,List.replicate_succ']
        refine ⟨⟨by rw [zQY],rfl,hM _ (by simp; omega),by simp; omega⟩,j+1,by omega,by omega,zZZ (by omega),?_,?_⟩
        · rw [e2]; simp; omega
        · rw [e2,zYq _ [popO],zUb]; rfl
      · have:j=z.2.length:=by omega
        subst this
        exact ⟨⟨rfl,rfl⟩,trivial⟩
end Go.Proofs.Ytlnfgagmiogkgaa
namespace Go.Proofs.Ytlnfgagmiogkgaa
open Go.RowKit
set_option linter.unusedVariables false
set_option linter.unusedSimpArgs false
attribute [local irreducible] Ans AnsO AnsG AnsN AnsI
set_option maxRecDepth 4000
structure Scr where
  bits:Int
  c:Rc
  tw:Int
  th:Int
  ord:List Int
  ims:List Im
  ops:List Oq
def Scr.frame (s:Scr):Int:=jY0 s.bits s.c s.tw s.th s.ord s.ims.length s.ops.length
def Scr.run (s:Scr):Int × Int:=opsE s.bits s.c s.tw s.th s.ord s.ims.length s.ops
end Go.Proofs.Ytlnfgagmiogkgaa
namespace Go.Proofs.Ytlnfgagmiogkgaa
open Go.RowKit
set_option linter.unusedVariables false
set_option linter.unusedSimpArgs false
attribute [local irreducible] Ans AnsO AnsG AnsN AnsI
set_option maxRecDepth 4000
theorem jKl {n:Nat} {l:List Int} (h:n=l.length):is l=is (ints (is l))∧n=(is l).length:=⟨by rw [zZo],by rw [zQW]; exact h⟩
end Go.Proofs.Ytlnfgagmiogkgaa
namespace Go.Proofs.Ytlnfgagmiogkgaa
open Go.RowKit
set_option linter.unusedVariables false
set_option linter.unusedSimpArgs false
attribute [local irreducible] Ans AnsO AnsG AnsN AnsI
set_option maxRecDepth 4000
def fitL (lo hi:Int) (l:List Int):Bool:=l.all fun v=>decide (lo≤v∧v≤hi)
def fitR (size:Int) (sg:Bool) (v:Int):Bool:=if sg then decide (-(2 ^ (8*size - 1).toNat)≤v∧v < 2 ^ (8*size - 1).toNat) else decide (0≤v∧v < 2 ^ (8*size).toNat)
theorem jXz {f:Int→Bool} {l:List Int} {k:Nat} (h:k < l.length):(l.take (k+1)).all f=((l.take k).all f && f l[k]):=by
  rw [List.take_succ_eq_append_getElem h,List.all_append]
  simp
theorem zUR {f:Int→Bool} {l:List Int} {k:Nat} (h:k < l.length) (hf:f l[k]=false):l.all f=false:=by
  rw [List.all_eq_false]
  exact ⟨l[k],List.getElem_mem h,by rw [hf]; simp⟩
theorem jJM {l:List Int} {k:Nat} (h:k < l.length):(is l)[k]?=some (.int .i64 l[k])∧nAt (is l) k=l[k]:=by
  have:(is l)[k]?=some (.int .i64 l[k]):=by simp [is,List.getElem?_eq_getElem h]
  exact ⟨this,by simp [nAt,this]⟩
theorem jXq (v:Int):fitR 1 false v=decide (0≤v∧v≤255):=by
  have:(2:Int) ^ ((8*1:Int).toNat)=256:=by decide
  unfold fitR
  rw [this]
  simp only [Bool.false_eq_true,if_false,decide_eq_decide]
  omega
theorem jQC (v:Int):fitR 4 false v=decide (0≤v∧v≤4294967295):=by
  have:(2:Int) ^ ((8*4:Int).toNat)=4294967296:=by decide
  unfold fitR
  rw [this]
  simp only [Bool.false_eq_true,if_false,decide_eq_decide]
  omega
theorem jXp (v:Int):fitR 4 true v=decide (-2147483648≤v∧v≤2147483647):=by
  have:(2:Int) ^ ((8*4 - 1:Int).toNat)=2147483648:=by decide
  unfold fitR
  rw [this]
  simp only [if_true,decide_eq_decide]
  omega
def zWp:Gam where
 pure:=fun f xs=>
  if f=68 then (match xs with | [.d (.int _ low),.d (.int _ high),.d (.sl n xs)]=>some (RV.d (dQ (fitL low high (ints (xs))))) | _=>none) else
  if f=40 then (match xs with | [.d (.int _ v),.d (.int _ size),.d (.bool sg)]=>some (RV.d (dQ (fitR size sg v))) | _=>none) else
  none
 modes:=fun f=>
  none
 proc:=fun f xs bs=>
  none
 iter:=fun f cs=>
  none
def zJg (low:Int) (high:Int) (l:List Int):Ann:=(Ann.seq Ann.leaf (Ann.seq (Ann.seq Ann.leaf (Ann.loop ⟨Nat,fun k=>k≤l.length∧fitL low high (l.take k)=true,fun k=>⟨[(0,aJ ((low))),(1,aJ ((high))),(9,AV.one (Cl.d (dS l.length (is l)))),(10,aJ (((l.length:Int)))),(11,aJ (((k:Int))))],[]⟩,fun k=>l.length - k⟩ fun k=>Ann.leaf)) Ann.leaf))
theorem zU3 (low:Int) (high:Int) (l:List Int):vcg Try.prog zWp 24 (zQl Try.f68) (zJg low high l) kn0 (zQN [RV.d (DV.int .i64 low),RV.d (DV.int .i64 high),RV.d (DV.sl l.length (is l))]) (post Try.prog Try.f68.results.toList (·=RV.d (DV.bool (fitL low high (ints (is l)))))) =
  (let zz0:=fun (k:Nat)=>(k≤l.length∧fitL low high (l.take k)=true); let zz1:=(dJ low=dJ low); let zz2:=(dJ high=dJ high); let zz3:=(dS l.length (is l)=dS l.length (is l)); let zz4:=(dJ (l.length:Int)=dJ (l.length:Int)); let zz5:=(dQ (fitL low high (ints (is l)))); tU4 (((∃ k:Nat,(zz0 k)∧((zz1∧zz2∧zz3∧zz4∧(dJ 0=dJ (k:Int))∧True)∧(True)))∧∀ k:Nat,(zz0 k)→True∧(((decide ((k:Int) < (l.length:Int)))=true→(0≤(k:Int)∧(k:Int) < (l.length:Int)∧(k:Int).toNat*1 < (is l).length)∧(((is l)[(k:Int).toNat*1]?=some (dJ (nAt (is l) ((k:Int).toNat*1))))∧True)∧tU5 ((((decide ((nAt (is l) ((k:Int).toNat*1)) < low))=false→tU4 ((((decide ((nAt (is l) ((k:Int).toNat*1)) > high))=true→True∧RV.d (dQ false)=RV.d zz5)∧((decide ((nAt (is l) ((k:Int).toNat*1)) > high))=false→tU2 (∃ k':Nat,(k'≤l.length∧fitL low high (l.take k')=true)∧(l.length - k' < l.length - k)∧((zz1∧zz2∧zz3∧zz4∧(dJ (wK ((k:Int)+(1:Int)))=dJ (k':Int))∧True)∧(True)))))))∧((decide ((nAt (is l) ((k:Int).toNat*1)) < low))=(!false)→tU2 (RV.d (dQ false)=RV.d zz5)))))∧((decide ((k:Int) < (l.length:Int)))=false→True∧RV.d (dQ true)=RV.d zz5))))):=by kernel_rfl
theorem zXQ (low:Int) (high:Int) (l:List Int):Ans Try.prog 68 [RV.d (DV.int .i64 low),RV.d (DV.int .i64 high),RV.d (DV.sl l.length (is l))] (RV.d (DV.bool (fitL low high (ints (is l))))):=
  zQf (Γ:=zWp) (zJg low high l) zQq Try.func68 rfl (Nat.le_of_ble_eq_true rfl) fun hwf=>by
    refine Eq.mpr (zU3 low high l) ?_
    delta tU2 tU4 tU5 dJ dQ wK dS
    simp only [true_and,and_true,RV.d.injEq,RV.agg.injEq,RV.tup.injEq,DV.bool.injEq,DV.int.injEq,DV.sl.injEq,List.cons.injEq,forall_const,Bool.not_false,Bool.not_true,Bool.not_eq_true',Bool.not_eq_false',decide_eq_true_eq,decide_eq_false_iff_not,Int.toNat_natCast]
    simp only [zZo]
    simp only [RV.wfs,RV.wf,DV.wf,maxLen] at hwf
    refine ⟨⟨0,⟨Nat.zero_le _,rfl⟩,rfl⟩,fun k hk=>⟨fun hlt=>?_,fun hge=>?_⟩⟩
    · obtain ⟨k1,k2⟩:=hk
      have hk:k < l.length:=by omega
      obtain ⟨q1,q2⟩:=jJM hk
      have w1:IntKind.wrap .i64 ((k:Int)+1)=((k+1:Nat):Int):=by rw [IntWalk.i64_in _ ⟨by omega,by omega⟩]; omega
      simp only [Nat.mul_one,q2,w1]
      refine ⟨⟨by omega,by omega,by rw [zQW]; omega⟩,q1,fun h1=>⟨fun h2=>?_,fun h2=>?_⟩,fun h1=>?_⟩
      · exact (zUR hk (by simp; omega)).symm
      · exact ⟨k+1,⟨by omega,by unfold fitL at k2 ⊢; rw [jXz hk,k2]; simp; omega⟩,by omega,rfl⟩
      · exact (zUR hk (by simp; omega)).symm
    · obtain ⟨k1,k2⟩:=hk
      have:k=l.length:=by omega
      subst this
      rw [List.take_length] at k2
      exact k2.symm
def zYV (l:List Int):Ann:=Ann.leaf
theorem zWM (l:List Int):vcg Try.prog zWp 5 (zQl Try.f36) (zYV l) kn0 (zQN [RV.d (DV.sl l.length (is l))]) (post Try.prog Try.f36.results.toList (·=RV.d (DV.bool (fitL 0 255 (ints (is l)))))) =
  (let zz0:=(dQ (fitL (0:Int) (255:Int) (ints ((is l))))); tU2 ((Ans Try.prog 68 [rJ (0),rJ (255),RV.d (dS l.length (is l))] (RV.d zz0))∧True∧RV.d zz0=RV.d (dQ (fitL 0 255 (ints (is l)))))):=by kernel_rfl
theorem zYU (l:List Int):Ans Try.prog 36 [RV.d (DV.sl l.length (is l))] (RV.d (DV.bool (fitL 0 255 (ints (is l))))):=
  zQf (Γ:=zWp) (zYV l) zQq Try.func36 rfl (Nat.le_of_ble_eq_true rfl) fun hwf=>by
    refine Eq.mpr (zWM l) ?_
    delta tU2 dQ dS rJ
    simp only [true_and,and_true,RV.d.injEq,RV.agg.injEq,RV.tup.injEq,DV.bool.injEq,DV.int.injEq,DV.sl.injEq,List.cons.injEq,forall_const,Bool.not_false,Bool.not_true,Bool.not_eq_true',Bool.not_eq_false',decide_eq_true_eq,decide_eq_false_iff_not,Int.toNat_natCast]
    simp only [zZo]
    have:=zXQ 0 255 l
    simp only [zZo] at this
    exact this
def zXP (l:List Int):Ann:=Ann.leaf
theorem zKQ (l:List Int):vcg Try.prog zWp 5 (zQl Try.f38) (zXP l) kn0 (zQN [RV.d (DV.sl l.length (is l))]) (post Try.prog Try.f38.results.toList (·=RV.d (DV.bool (fitL 0 4294967295 (ints (is l)))))) =
  (let zz0:=(dQ (fitL (0:Int) (4294967295:Int) (ints ((is l))))); tU2 ((Ans Try.prog 68 [rJ (0),rJ (4294967295),RV.d (dS l.length (is l))] (RV.d zz0))∧True∧RV.d zz0=RV.d (dQ (fitL 0 4294967295 (ints (is l)))))):=by kernel_rfl
theorem zXO (l:List Int):Ans Try.prog 38 [RV.d (DV.sl l.length (is l))] (RV.d (DV.bool (fitL 0 4294967295 (ints (is l))))):=
  zQf (Γ:=zWp) (zXP l) zQq Try.func38 rfl (Nat.le_of_ble_eq_true rfl) fun hwf=>by
    refine Eq.mpr (zKQ l) ?_
    delta tU2 dQ dS rJ
    simp only [true_and,and_true,RV.d.injEq,RV.agg.injEq,RV.tup.injEq,DV.bool.injEq,DV.int.injEq,DV.sl.injEq,List.cons.injEq,forall_const,Bool.not_false,Bool.not_true,Bool.not_eq_true',Bool.not_eq_false',decide_eq_true_eq,decide_eq_false_iff_not,Int.toNat_natCast]
    simp only [zZo]
    have:=zXQ 0 4294967295 l
    simp only [zZo] at this
    exact this
def zYh (l:List Int):Ann:=Ann.leaf
theorem zWf (l:List Int):vcg Try.prog zWp 5 (zQl Try.f37) (zYh l) kn0 (zQN [RV.d (DV.sl l.length (is l))]) (post Try.prog Try.f37.results.toList (·=RV.d (DV.bool (fitL (-2147483648) 2147483647 (ints (is l)))))) =
  (let zz0:=(dQ (fitL (-2147483648:Int) (2147483647:Int) (ints ((is l))))); tU2 ((Ans Try.prog 68 [rJ ((-2147483648:Int)),rJ (2147483647),RV.d (dS l.length (is l))] (RV.d zz0))∧True∧RV.d zz0=RV.d (dQ (fitL (-2147483648) 2147483647 (ints (is l)))))):=by kernel_rfl
theorem zYg (l:List Int):Ans Try.prog 37 [RV.d (DV.sl l.length (is l))] (RV.d (DV.bool (fitL (-2147483648) 2147483647 (ints (is l))))):=
  zQf (Γ:=zWp) (zYh l) zQq Try.func37 rfl (Nat.le_of_ble_eq_true rfl) fun hwf=>by
    refine Eq.mpr (zWf l) ?_
    delta tU2 dQ dS rJ
    simp only [true_and,and_true,RV.d.injEq,RV.agg.injEq,RV.tup.injEq,DV.bool.injEq,DV.int.injEq,DV.sl.injEq,List.cons.injEq,forall_const,Bool.not_false,Bool.not_true,Bool.not_eq_true',Bool.not_eq_false',decide_eq_true_eq,decide_eq_false_iff_not,Int.toNat_natCast]
    simp only [zZo]
    have:=zXQ (-2147483648) 2147483647 l
    simp only [zZo] at this
    exact this
def zV5 (v:Int) (size:Int) (sg:Bool):Ann:=Ann.leaf
theorem jZK (v:Int) (size:Int) (sg:Bool):vcg Try.prog zWp 34 (zQl Try.f40) (zV5 v size sg) kn0 (zQN [RV.d (DV.int .i64 v),RV.d (DV.int .i64 size),RV.d (DV.bool sg)]) (post Try.prog Try.f40.results.toList (·=RV.d (DV.bool (fitR size sg v)))) =
  (let zz0:=(wK ((8:Int)*size)); let zz1:=(wK (zz0 - (1:Int))); let zz2:=(0≤IntKind.wrap .u64 zz1); let zz3:=(IntKind.wrap .u64 zz1); tU2 (((sg=true→tU5 (zz2∧tU2 ((((decide (v≥(wK ((-1:Int)*2 ^ min zz3.toNat 64))))=true→tU5 (zz2∧tU3 (RV.d (dQ (decide (v < (wK ((1:Int)*2 ^ min zz3.toNat 64)))))=RV.d (dQ (fitR size sg v)))))∧((decide (v≥(wK ((-1:Int)*2 ^ min zz3.toNat 64))))=(!true)→tU2 (RV.d (dQ false)=RV.d (dQ (fitR size sg v))))))))∧(sg=false→tU3 ((((decide (v≥(0:Int)))=true→tU4 ((0≤IntKind.wrap .u64 zz0)∧tU3 (RV.d (dQ (decide (v < (wK ((1:Int)*2 ^ min (IntKind.wrap .u64 zz0).toNat 64)))))=RV.d (dQ (fitR size sg v)))))∧((decide (v≥(0:Int)))=(!true)→tU2 (RV.d (dQ false)=RV.d (dQ (fitR size sg v)))))))))):=by kernel_rfl
theorem zV4 (v:Int) (size:Int) (sg:Bool) (hs:(size=1∧sg=false)∨size=4):Ans Try.prog 40 [RV.d (DV.int .i64 v),RV.d (DV.int .i64 size),RV.d (DV.bool sg)] (RV.d (DV.bool (fitR size sg v))):=
  zQf (Γ:=zWp) (zV5 v size sg) zQq Try.func40 rfl (Nat.le_of_ble_eq_true rfl) fun hwf=>by
    refine Eq.mpr (jZK v size sg) ?_
    delta tU2 tU3 tU4 tU5 dQ wK
    simp only [true_and,and_true,RV.d.injEq,RV.agg.injEq,RV.tup.injEq,DV.bool.injEq,DV.int.injEq,DV.sl.injEq,List.cons.injEq,forall_const,Bool.not_false,Bool.not_true,Bool.not_eq_true',Bool.not_eq_false',decide_eq_true_eq,decide_eq_false_iff_not,Int.toNat_natCast]
    have e1:IntKind.wrap .i64 (8*1)=8:=by decide
    have e2:IntKind.wrap .i64 (8*4)=32:=by decide
    have e3:IntKind.wrap .u64 8=8:=by decide
    have e4:IntKind.wrap .u64 32=32:=by decide
    have e5:IntKind.wrap .u64 (IntKind.wrap .i64 (32 - 1))=31:=by decide
    have e6:IntKind.wrap .i64 (1*2 ^ min (8:Int).toNat 64)=256:=by decide
    have e7:IntKind.wrap .i64 (1*2 ^ min (32:Int).toNat 64)=4294967296:=by decide
    have e8:IntKind.wrap .i64 (1*2 ^ min (31:Int).toNat 64)=2147483648:=by decide
    have e9:IntKind.wrap .i64 (-1*2 ^ min (31:Int).toNat 64) = -2147483648:=by decide
    rcases hs with ⟨rfl,rfl⟩ | rfl
    · rw [jXq]
      simp only [e1,e3,e6]
      refine ⟨fun h=>(by cases h),fun _=>⟨fun h=>⟨by omega,?_⟩,fun h=>?_⟩⟩
      · rw [decide_eq_decide]; omega
      · symm; simp; omega
    · simp only [e2,e4,e5,e7,e8,e9]
      cases sg
      · rw [jQC]
        refine ⟨fun h=>(by cases h),fun _=>⟨fun h=>⟨by omega,?_⟩,fun h=>?_⟩⟩
        · rw [decide_eq_decide]; omega
        · symm; simp; omega
      · rw [jXp]
        refine ⟨fun _=>⟨by omega,fun h=>⟨by omega,?_⟩,fun h=>?_⟩,fun h=>(by cases h)⟩
        · rw [decide_eq_decide]; omega
        · symm; simp; omega
def zUV (size:Int) (sg:Bool) (l:List Int):Ann:=(Ann.seq Ann.leaf (Ann.seq (Ann.seq Ann.leaf (Ann.loop ⟨Nat,fun k=>k≤l.length∧(l.take k).all (fitR size sg)=true,fun k=>⟨[(0,aJ ((size))),(1,AV.one (Cl.d (dQ sg))),(2,AV.one (Cl.d (dS l.length (is l)))),(7,aJ (((k:Int))))],[]⟩,fun k=>l.length - k⟩ fun k=>Ann.leaf)) Ann.leaf))
theorem jYc (size:Int) (sg:Bool) (l:List Int):vcg Try.prog zWp 22 (zQl Try.f41) (zUV size sg l) kn0 (zQN [RV.d (DV.int .i64 size),RV.d (DV.bool sg),RV.d (DV.sl l.length (is l))]) (post Try.prog Try.f41.results.toList (·=RV.d (DV.bool ((ints (is l)).all (fitR size sg))))) =
  (let zz0:=fun (k:Nat)=>(k≤l.length∧(l.take k).all (fitR size sg)=true); let zz1:=(dJ size=dJ size); let zz2:=(dS l.length (is l)=dS l.length (is l)); let zz3:=(dQ ((ints (is l)).all (fitR size sg))); tU2 (((∃ k:Nat,(zz0 k)∧((zz1∧(dQ sg=dQ sg)∧zz2∧(dJ 0=dJ (k:Int))∧True)∧(True)))∧∀ k:Nat,(zz0 k)→tU4 ((((decide ((k:Int) < (l.length:Int)))=true→tU2 ((0≤(k:Int)∧(k:Int) < (l.length:Int)∧(k:Int).toNat*1 < (is l).length)∧(((is l)[(k:Int).toNat*1]?=some (dJ (nAt (is l) ((k:Int).toNat*1))))∧True)∧tU2 ((Ans Try.prog 40 [rJ ((nAt (is l) ((k:Int).toNat*1))),rJ (size),RV.d (dQ sg)] (RV.d (dQ (fitR size sg (nAt (is l) ((k:Int).toNat*1))))))∧True∧(((!(fitR size sg (nAt (is l) ((k:Int).toNat*1))))=true→True∧RV.d (dQ false)=RV.d zz3)∧((!(fitR size sg (nAt (is l) ((k:Int).toNat*1))))=false→tU3 (∃ k':Nat,(k'≤l.length∧(l.take k').all (fitR size sg)=true)∧(l.length - k' < l.length - k)∧((zz1∧(dQ sg=dQ sg)∧zz2∧(dJ (wK ((k:Int)+(1:Int)))=dJ (k':Int))∧True)∧(True))))))))∧((decide ((k:Int) < (l.length:Int)))=false→True∧RV.d (dQ true)=RV.d zz3)))))):=by kernel_rfl
theorem zXS (size:Int) (sg:Bool) (l:List Int) (hs:(size=1∧sg=false)∨size=4):Ans Try.prog 41 [RV.d (DV.int .i64 size),RV.d (DV.bool sg),RV.d (DV.sl l.length (is l))] (RV.d (DV.bool ((ints (is l)).all (fitR size sg)))):=
  zQf (Γ:=zWp) (zUV size sg l) zQq Try.func41 rfl (Nat.le_of_ble_eq_true rfl) fun hwf=>by
    refine Eq.mpr (jYc size sg l) ?_
    delta tU2 tU3 tU4 dJ dQ wK dS rJ
    simp only [true_and,and_true,RV.d.injEq,RV.agg.injEq,RV.tup.injEq,DV.bool.injEq,DV.int.injEq,DV.sl.injEq,List.cons.injEq,forall_const,Bool.not_false,Bool.not_true,Bool.not_eq_true',Bool.not_eq_false',decide_eq_true_eq,decide_eq_false_iff_not,Int.toNat_natCast]
    simp only [zZo]
    simp only [RV.wfs,RV.wf,DV.wf,maxLen] at hwf
    refine ⟨⟨0,⟨Nat.zero_le _,rfl⟩,rfl⟩,fun k hk=>⟨fun hlt=>?_,fun hge=>?_⟩⟩
    · obtain ⟨k1,k2⟩:=hk
      have hk:k < l.length:=by omega
      obtain ⟨q1,q2⟩:=jJM hk
      have w1:IntKind.wrap .i64 ((k:Int)+1)=((k+1:Nat):Int):=by rw [IntWalk.i64_in _ ⟨by omega,by omega⟩]; omega
      simp only [Nat.mul_one,q2,w1]
      refine ⟨⟨by omega,by omega,by rw [zQW]; omega⟩,q1,zV4 _ _ _ hs,fun h1=>(zUR hk h1).symm,fun h1=>⟨k+1,⟨by omega,by rw [jXz hk,k2,h1]; rfl⟩,by omega,rfl⟩⟩
    · obtain ⟨k1,k2⟩:=hk
      have:k=l.length:=by omega
      subst this
      rw [List.take_length] at k2
      exact k2.symm
end Go.Proofs.Ytlnfgagmiogkgaa
namespace Go.Proofs.Ytlnfgagmiogkgaa
open Go.RowKit
set_option linter.unusedVariables false
set_option linter.unusedSimpArgs false
def imQ (xs:List DV) (i:Nat):Im:=⟨(nAt xs (i)),(nAt xs (i+1)),(bAt xs (i+1+1)),⟨(nAt xs (i+1+1+1)),(nAt xs (i+1+1+1+1)),(nAt xs (i+1+1+1+1+1)),(nAt xs (i+1+1+1+1+1+1)),(nAt xs (i+1+1+1+1+1+1+1))⟩,⟨(nAt xs (i+1+1+1+1+1+1+1+1)),(nAt xs (i+1+1+1+1+1+1+1+1+1)),(nAt xs (i+1+1+1+1+1+1+1+1+1+1)),(lAt xs (i+1+1+1+1+1+1+1+1+1+1+1)),(cAt xs (i+1+1+1+1+1+1+1+1+1+1+1))⟩,⟨(nAt xs (i+1+1+1+1+1+1+1+1+1+1+1+1)),(nAt xs (i+1+1+1+1+1+1+1+1+1+1+1+1+1)),(nAt xs (i+1+1+1+1+1+1+1+1+1+1+1+1+1+1)),(lAt xs (i+1+1+1+1+1+1+1+1+1+1+1+1+1+1+1)),(cAt xs (i+1+1+1+1+1+1+1+1+1+1+1+1+1+1+1))⟩,⟨(nAt xs (i+1+1+1+1+1+1+1+1+1+1+1+1+1+1+1+1)),(nAt xs (i+1+1+1+1+1+1+1+1+1+1+1+1+1+1+1+1+1)),(nAt xs (i+1+1+1+1+1+1+1+1+1+1+1+1+1+1+1+1+1+1)),(lAt xs (i+1+1+1+1+1+1+1+1+1+1+1+1+1+1+1+1+1+1+1)),(cAt xs (i+1+1+1+1+1+1+1+1+1+1+1+1+1+1+1+1+1+1+1))⟩,⟨(nAt xs (i+1+1+1+1+1+1+1+1+1+1+1+1+1+1+1+1+1+1+1+1)),(nAt xs (i+1+1+1+1+1+1+1+1+1+1+1+1+1+1+1+1+1+1+1+1+1)),(nAt xs (i+1+1+1+1+1+1+1+1+1+1+1+1+1+1+1+1+1+1+1+1+1+1)),(lAt xs (i+1+1+1+1+1+1+1+1+1+1+1+1+1+1+1+1+1+1+1+1+1+1+1)),(cAt xs (i+1+1+1+1+1+1+1+1+1+1+1+1+1+1+1+1+1+1+1+1+1+1+1))⟩,⟨(nAt xs (i+1+1+1+1+1+1+1+1+1+1+1+1+1+1+1+1+1+1+1+1+1+1+1+1)),(nAt xs (i+1+1+1+1+1+1+1+1+1+1+1+1+1+1+1+1+1+1+1+1+1+1+1+1+1)),(nAt xs (i+1+1+1+1+1+1+1+1+1+1+1+1+1+1+1+1+1+1+1+1+1+1+1+1+1+1)),(lAt xs (i+1+1+1+1+1+1+1+1+1+1+1+1+1+1+1+1+1+1+1+1+1+1+1+1+1+1+1)),(cAt xs (i+1+1+1+1+1+1+1+1+1+1+1+1+1+1+1+1+1+1+1+1+1+1+1+1+1+1+1))⟩⟩
def imQr (xs:List DV) (i:Nat):Prop:=(xs[i]?=some (DV.int .i64 (nAt xs (i))))∧(xs[i+1]?=some (DV.int .i64 (nAt xs (i+1))))∧(xs[i+1+1]?=some (DV.bool (bAt xs (i+1+1))))∧(xs[i+1+1+1]?=some (DV.int .u16 (nAt xs (i+1+1+1))))∧(xs[i+1+1+1+1]?=some (DV.int .u16 (nAt xs (i+1+1+1+1))))∧(xs[i+1+1+1+1+1]?=some (DV.int .u16 (nAt xs (i+1+1+1+1+1))))∧(xs[i+1+1+1+1+1+1]?=some (DV.int .u16 (nAt xs (i+1+1+1+1+1+1))))∧(xs[i+1+1+1+1+1+1+1]?=some (DV.int .u16 (nAt xs (i+1+1+1+1+1+1+1))))∧(xs[i+1+1+1+1+1+1+1+1]?=some (DV.int .i64 (nAt xs (i+1+1+1+1+1+1+1+1))))∧(xs[i+1+1+1+1+1+1+1+1+1]?=some (DV.int .i64 (nAt xs (i+1+1+1+1+1+1+1+1+1))))∧(xs[i+1+1+1+1+1+1+1+1+1+1]?=some (DV.int .i64 (nAt xs (i+1+1+1+1+1+1+1+1+1+1))))∧(xs[i+1+1+1+1+1+1+1+1+1+1+1]?=some (DV.sl (lAt xs (i+1+1+1+1+1+1+1+1+1+1+1)) (cAt xs (i+1+1+1+1+1+1+1+1+1+1+1))))∧(xs[i+1+1+1+1+1+1+1+1+1+1+1+1]?=some (DV.int .i64 (nAt xs (i+1+1+1+1+1+1+1+1+1+1+1+1))))∧(xs[i+1+1+1+1+1+1+1+1+1+1+1+1+1]?=some (DV.int .i64 (nAt xs (i+1+1+1+1+1+1+1+1+1+1+1+1+1))))∧(xs[i+1+1+1+1+1+1+1+1+1+1+1+1+1+1]?=some (DV.int .i64 (nAt xs (i+1+1+1+1+1+1+1+1+1+1+1+1+1+1))))∧(xs[i+1+1+1+1+1+1+1+1+1+1+1+1+1+1+1]?=some (DV.sl (lAt xs (i+1+1+1+1+1+1+1+1+1+1+1+1+1+1+1)) (cAt xs (i+1+1+1+1+1+1+1+1+1+1+1+1+1+1+1))))∧(xs[i+1+1+1+1+1+1+1+1+1+1+1+1+1+1+1+1]?=some (DV.int .i64 (nAt xs (i+1+1+1+1+1+1+1+1+1+1+1+1+1+1+1+1))))∧(xs[i+1+1+1+1+1+1+1+1+1+1+1+1+1+1+1+1+1]?=some (DV.int .i64 (nAt xs (i+1+1+1+1+1+1+1+1+1+1+1+1+1+1+1+1+1))))∧(xs[i+1+1+1+1+1+1+1+1+1+1+1+1+1+1+1+1+1+1]?=some (DV.int .i64 (nAt xs (i+1+1+1+1+1+1+1+1+1+1+1+1+1+1+1+1+1+1))))∧(xs[i+1+1+1+1+1+1+1+1+1+1+1+1+1+1+1+1+1+1+1]?=some (DV.sl (lAt xs (i+1+1+1+1+1+1+1+1+1+1+1+1+1+1+1+1+1+1+1)) (cAt xs (i+1+1+1+1+1+1+1+1+1+1+1+1+1+1+1+1+1+1+1))))∧(xs[i+1+1+1+1+1+1+1+1+1+1+1+1+1+1+1+1+1+1+1+1]?=some (DV.int .i64 (nAt xs (i+1+1+1+1+1+1+1+1+1+1+1+1+1+1+1+1+1+1+1+1))))∧(xs[i+1+1+1+1+1+1+1+1+1+1+1+1+1+1+1+1+1+1+1+1+1]?=some (DV.int .i64 (nAt xs (i+1+1+1+1+1+1+1+1+1+1+1+1+1+1+1+1+1+1+1+1+1))))∧(xs[i+1+1+1+1+1+1+1+1+1+1+1+1+1+1+1+1+1+1+1+1+1+1]?=some (DV.int .i64 (nAt xs (i+1+1+1+1+1+1+1+1+1+1+1+1+1+1+1+1+1+1+1+1+1+1))))∧(xs[i+1+1+1+1+1+1+1+1+1+1+1+1+1+1+1+1+1+1+1+1+1+1+1]?=some (DV.sl (lAt xs (i+1+1+1+1+1+1+1+1+1+1+1+1+1+1+1+1+1+1+1+1+1+1+1)) (cAt xs (i+1+1+1+1+1+1+1+1+1+1+1+1+1+1+1+1+1+1+1+1+1+1+1))))∧(xs[i+1+1+1+1+1+1+1+1+1+1+1+1+1+1+1+1+1+1+1+1+1+1+1+1]?=some (DV.int .i64 (nAt xs (i+1+1+1+1+1+1+1+1+1+1+1+1+1+1+1+1+1+1+1+1+1+1+1+1))))∧(xs[i+1+1+1+1+1+1+1+1+1+1+1+1+1+1+1+1+1+1+1+1+1+1+1+1+1]?=some (DV.int .i64 (nAt xs (i+1+1+1+1+1+1+1+1+1+1+1+1+1+1+1+1+1+1+1+1+1+1+1+1+1))))∧(xs[i+1+1+1+1+1+1+1+1+1+1+1+1+1+1+1+1+1+1+1+1+1+1+1+1+1+1]?=some (DV.int .i64 (nAt xs (i+1+1+1+1+1+1+1+1+1+1+1+1+1+1+1+1+1+1+1+1+1+1+1+1+1+1))))∧(xs[i+1+1+1+1+1+1+1+1+1+1+1+1+1+1+1+1+1+1+1+1+1+1+1+1+1+1+1]?=some (DV.sl (lAt xs (i+1+1+1+1+1+1+1+1+1+1+1+1+1+1+1+1+1+1+1+1+1+1+1+1+1+1+1)) (cAt xs (i+1+1+1+1+1+1+1+1+1+1+1+1+1+1+1+1+1+1+1+1+1+1+1+1+1+1+1))))∧True
def oqQ (xs:List DV) (i:Nat):Oq:=⟨(nAt xs (i)),(nAt xs (i+1)),(nAt xs (i+1+1)),(nAt xs (i+1+1+1)),(nAt xs (i+1+1+1+1)),(nAt xs (i+1+1+1+1+1)),(nAt xs (i+1+1+1+1+1+1)),(nAt xs (i+1+1+1+1+1+1+1)),(nAt xs (i+1+1+1+1+1+1+1+1)),(nAt xs (i+1+1+1+1+1+1+1+1+1)),(bAt xs (i+1+1+1+1+1+1+1+1+1+1)),(bAt xs (i+1+1+1+1+1+1+1+1+1+1+1))⟩
def oqQr (xs:List DV) (i:Nat):Prop:=(xs[i]?=some (DV.int .i64 (nAt xs (i))))∧(xs[i+1]?=some (DV.int .i64 (nAt xs (i+1))))∧(xs[i+1+1]?=some (DV.int .i64 (nAt xs (i+1+1))))∧(xs[i+1+1+1]?=some (DV.int .i64 (nAt xs (i+1+1+1))))∧(xs[i+1+1+1+1]?=some (DV.int .i64 (nAt xs (i+1+1+1+1))))∧(xs[i+1+1+1+1+1]?=some (DV.int .i64 (nAt xs (i+1+1+1+1+1))))∧(xs[i+1+1+1+1+1+1]?=some (DV.int .i64 (nAt xs (i+1+1+1+1+1+1))))∧(xs[i+1+1+1+1+1+1+1]?=some (DV.int .u16 (nAt xs (i+1+1+1+1+1+1+1))))∧(xs[i+1+1+1+1+1+1+1+1]?=some (DV.int .i64 (nAt xs (i+1+1+1+1+1+1+1+1))))∧(xs[i+1+1+1+1+1+1+1+1+1]?=some (DV.int .i64 (nAt xs (i+1+1+1+1+1+1+1+1+1))))∧(xs[i+1+1+1+1+1+1+1+1+1+1]?=some (DV.bool (bAt xs (i+1+1+1+1+1+1+1+1+1+1))))∧(xs[i+1+1+1+1+1+1+1+1+1+1+1]?=some (DV.bool (bAt xs (i+1+1+1+1+1+1+1+1+1+1+1))))∧True
def pxQ (xs:List DV) (i:Nat):Px:=⟨(nAt xs (i)),(nAt xs (i+1)),(nAt xs (i+1+1)),(nAt xs (i+1+1+1)),(nAt xs (i+1+1+1+1))⟩
def pxQr (xs:List DV) (i:Nat):Prop:=(xs[i]?=some (DV.int .u16 (nAt xs (i))))∧(xs[i+1]?=some (DV.int .u16 (nAt xs (i+1))))∧(xs[i+1+1]?=some (DV.int .u16 (nAt xs (i+1+1))))∧(xs[i+1+1+1]?=some (DV.int .u16 (nAt xs (i+1+1+1))))∧(xs[i+1+1+1+1]?=some (DV.int .u16 (nAt xs (i+1+1+1+1))))∧True
def imC (m:Im):List Cl:=[Cl.d (DV.int .i64 m.w),Cl.d (DV.int .i64 m.h),Cl.d (DV.bool m.so),Cl.d (DV.int .u16 m.c.a),Cl.d (DV.int .u16 m.c.b),Cl.d (DV.int .u16 m.c.c),Cl.d (DV.int .u16 m.c.al),Cl.d (DV.int .u16 m.c.f),Cl.d (DV.int .i64 m.p0.w),Cl.d (DV.int .i64 m.p0.h),Cl.d (DV.int .i64 m.p0.s),Cl.d (DV.sl m.p0.n m.p0.xs),Cl.d (DV.int .i64 m.p1.w),Cl.d (DV.int .i64 m.p1.h),Cl.d (DV.int .i64 m.p1.s),Cl.d (DV.sl m.p1.n m.p1.xs),Cl.d (DV.int .i64 m.p2.w),Cl.d (DV.int .i64 m.p2.h),Cl.d (DV.int .i64 m.p2.s),Cl.d (DV.sl m.p2.n m.p2.xs),Cl.d (DV.int .i64 m.p3.w),Cl.d (DV.int .i64 m.p3.h),Cl.d (DV.int .i64 m.p3.s),Cl.d (DV.sl m.p3.n m.p3.xs),Cl.d (DV.int .i64 m.p4.w),Cl.d (DV.int .i64 m.p4.h),Cl.d (DV.int .i64 m.p4.s),Cl.d (DV.sl m.p4.n m.p4.xs)]
def oqC (m:Oq):List Cl:=[Cl.d (DV.int .i64 m.kind),Cl.d (DV.int .i64 m.image),Cl.d (DV.int .i64 m.x),Cl.d (DV.int .i64 m.y),Cl.d (DV.int .i64 m.mask),Cl.d (DV.int .i64 m.mx),Cl.d (DV.int .i64 m.my),Cl.d (DV.int .u16 m.opac),Cl.d (DV.int .i64 m.oper),Cl.d (DV.int .i64 m.mode),Cl.d (DV.bool m.iso),Cl.d (DV.bool m.kno)]
def oqD (m:Oq):AV:=AV.agg [Cl.d (DV.int .i64 m.kind),Cl.d (DV.int .i64 m.image),Cl.d (DV.int .i64 m.x),Cl.d (DV.int .i64 m.y),Cl.d (DV.int .i64 m.mask),Cl.d (DV.int .i64 m.mx),Cl.d (DV.int .i64 m.my),Cl.d (DV.int .u16 m.opac),Cl.d (DV.int .i64 m.oper),Cl.d (DV.int .i64 m.mode),Cl.d (DV.bool m.iso),Cl.d (DV.bool m.kno)]
def pxC (m:Px):List Cl:=[Cl.d (DV.int .u16 m.a),Cl.d (DV.int .u16 m.b),Cl.d (DV.int .u16 m.c),Cl.d (DV.int .u16 m.al),Cl.d (DV.int .u16 m.f)]
def pxD (m:Px):AV:=AV.agg [Cl.d (DV.int .u16 m.a),Cl.d (DV.int .u16 m.b),Cl.d (DV.int .u16 m.c),Cl.d (DV.int .u16 m.al),Cl.d (DV.int .u16 m.f)]
def byI (v:Int) (i:Nat):Int:=IntKind.wrap .u8 (Int.fdiv v (2 ^ (8*i)))
def beI:Nat→Int→List Int
  | 0,_=>[]
  | n+1,v=>byI v n::beI n v
theorem zQF (v:Int):∀ n,(beI n v).length=n
  | 0=>rfl
  | n+1=>by simp [beI,zQF v n]
def u8s (l:List Int):List DV:=l.map (.int .u8)
def iU (l:List Int):List Int:=ints (u8s l)
theorem zX4 (l:List Int):(u8s l).length=l.length:=by simp [u8s]
theorem jKp (v:Int) {i:Nat} (h:i < 8):IntKind.wrap .u8 (Int.fdiv v (2 ^ min (IntKind.wrap .i64 (8*(i:Int))).toNat 64))=byI v i:=by
  have:IntKind.wrap .i64 (8*(i:Int))=((8*i:Nat):Int):=by rw [IntWalk.i64_in _ ⟨by omega,by omega⟩]; omega
  rw [this,Int.toNat_natCast,Nat.min_eq_left (by omega)]
  rfl
def putL (n:Nat) (l:List Int):List Int:=l.flatMap (beI n)
theorem zQI (n:Nat) (l:List Int):(putL n l).length=l.length*n:=by
  induction l with
  | nil=>simp [putL]
  | cons a l ih=>simp only [putL,List.flatMap_cons,List.length_append,zQF,List.length_cons] at ih ⊢; rw [ih,Nat.add_mul]; omega
theorem zW0 {n:Nat} {l:List Int} {k:Nat} (h:k < l.length):putL n (l.take (k+1))=putL n (l.take k)++beI n l[k]:=by
  unfold putL
  rw [List.take_succ_eq_append_getElem h,List.flatMap_append]
  simp
def pxB (p:Px):List Int:=putL 2 [p.a,p.b,p.c,p.al,p.f]
def imB_ (m:Im):List Int:=if m.so then putL 1 [1]++putL 4 [m.w,m.h]++pxB m.c else putL 1 [0]++putL 4 [m.w,m.h]++m.pixels.flatMap pxB
def zXe (o:Oq):Int:=(if o.iso then 1 else 0)+(if o.kno then 2 else 0)
def opB (o:Oq):List Int:=putL 1 [o.kind,o.image]++putL 4 [o.x,o.y]++putL 1 [o.mask]++putL 4 [o.mx,o.my]++putL 2 [o.opac]++putL 1 [o.oper,o.mode,zXe o]
def encB (s:Scr):List Int:=[76,67]++putL 1 [s.bits]++putL 4 [s.c.a,s.c.b,s.c.c,s.c.d,s.tw,s.th,(s.ord.length:Int)]++putL 4 s.ord++putL 1 [(s.ims.length:Int)]++s.ims.flatMap imB_++putL 2 [(s.ops.length:Int)]++s.ops.flatMap opB
theorem zXb (p:Px):(pxB p).length=10:=by rw [pxB,zQI]; rfl
theorem jYK (o:Oq):(opB o).length=24:=by simp [opB,zQI]
def zZJ (m:Im):Int:=if m.so then 19 else 9+10*(m.w*m.h)
def zQL:List Im→Int
  | []=>0
  | m::l=>zZJ m+zQL l
theorem zKt:∀ (l m:List Im),zQL (l++m)=zQL l+zQL m
  | [],m=>by simp [zQL]
  | a::l,m=>by rw [List.cons_append,zQL,zQL,zKt l m]; omega
theorem jYY {m:Im} (h:m.formed=true):((imB_ m).length:Int)=zZJ m:=by
  have hp:=Im.pixels_len h
  unfold imB_ zZJ
  split
  · simp [zQI,zXb]
  · have e:(m.pixels.flatMap pxB).length=m.pixels.length*10:=by
      induction m.pixels with
      | nil=>simp
      | cons p l ih=>simp only [List.flatMap_cons,List.length_append,zXb,List.length_cons]; rw [ih,Nat.add_mul]; omega
    simp only [List.length_append,zQI,e,List.length_cons,List.length_nil]
    omega
def opOk (o:Oq):Bool:=fitL 0 255 [o.kind,o.image,o.mask,o.oper,o.mode] && fitL (-2147483648) 2147483647 [o.x,o.y,o.mx,o.my]
def zXI (s:Scr):Bool:=
  fitL 0 255 [s.bits] && fitL (-2147483648) 2147483647 [s.c.a,s.c.b,s.c.c,s.c.d] && fitL 0 4294967295 [s.tw,s.th] && fitL 0 4294967295 s.ord && decide (s.ims.length≤64) && decide (s.ops.length≤4096)
def zZm (s:Scr) (l:List Im):Int:=34+4*(s.ord.length:Int)+24*(s.ops.length:Int)+zQL l
def zQO (s:Scr):Bool:=zXI s && s.ims.all Im.formed && s.ops.all opOk && decide (zZm s s.ims≤67108864)
def encS (s:Scr):List Int × Int:=if zQO s then (encB s,0) else ([],19)
end Go.Proofs.Ytlnfgagmiogkgaa
namespace Go.Proofs.Ytlnfgagmiogkgaa
open Go.RowKit
set_option linter.unusedVariables false
set_option linter.unusedSimpArgs false
attribute [local irreducible] Ans AnsO AnsG AnsN AnsI
set_option maxRecDepth 4000
theorem jZ0 (l:List Px):(l.flatMap pxB).length=l.length*10:=by
  induction l with
  | nil=>simp
  | cons p l ih=>simp only [List.flatMap_cons,List.length_append,zXb,List.length_cons]; rw [ih,Nat.add_mul]; omega
theorem zJp (k:IntKind) (n:Int) (l:List DV):ints (.int k n::l)=n::ints l:=rfl
theorem zK5:ints []=[]:=rfl
theorem sizeIm_le' {m:Im} (h:m.formed=true):m.w*m.h≤16777216:=by
  have h1:zQz m.w m.h=true:=by unfold Im.formed at h; exact (Bool.and_eq_true_iff.1 h).1
  simp only [zQz,Bool.and_eq_true,decide_eq_true_eq] at h1
  omega
theorem zQZ (l:List Int):ints (u8s l)=l:=by simp [ints,u8s,Function.comp_def]
theorem zHI {v:Int}:∀ {n j:Nat},j < n→(beI n v).take (j+1)=(beI n v).take j++[byI v (n - 1 - j)]
  | n+1,0,_=>by simp [beI]
  | n+1,j+1,h=>by
    have:=@zHI v n j (by omega)
    simp only [beI,List.take_succ_cons,this,List.cons_append]
    rw [show n+1 - 1 - (j+1)=n - 1 - j by omega]
def zGf:Gam where
 pure:=fun f xs=>
  if f=65 then (match xs with | []=>some (RV.tup [RV.tup [rJ (37),rJ (5)]]) | [.agg [.int _ w,.int _ h,.bool so,.int _ c0,.int _ c1,.int _ c2,.int _ ca,.int _ cf,.int _ w0,.int _ h0,.int _ s0,.sl n0 xs0,.int _ w1,.int _ h1,.int _ s1,.sl n1 xs1,.int _ w2,.int _ h2,.int _ s2,.sl n2 xs2,.int _ w3,.int _ h3,.int _ s3,.sl n3 xs3,.int _ w4,.int _ h4,.int _ s4,.sl n4 xs4]]=>some (RV.d (dS ((Im.pixels ⟨w,h,so,⟨c0,c1,c2,ca,cf⟩,⟨w0,h0,s0,n0,xs0⟩,⟨w1,h1,s1,n1,xs1⟩,⟨w2,h2,s2,n2,xs2⟩,⟨w3,h3,s3,n3,xs3⟩,⟨w4,h4,s4,n4,xs4⟩⟩).length) (pxs (Im.pixels ⟨w,h,so,⟨c0,c1,c2,ca,cf⟩,⟨w0,h0,s0,n0,xs0⟩,⟨w1,h1,s1,n1,xs1⟩,⟨w2,h2,s2,n2,xs2⟩,⟨w3,h3,s3,n3,xs3⟩,⟨w4,h4,s4,n4,xs4⟩⟩)))) | _=>none) else
  if f=66 then (match xs with | [.agg [.int _ okind,.int _ oimage,.int _ ox,.int _ oy,.int _ omask,.int _ omx,.int _ omy,.int _ oopac,.int _ ooper,.int _ omode,.bool oiso,.bool okno]]=>some (rJ ((zXe ⟨okind,oimage,ox,oy,omask,omx,omy,oopac,ooper,omode,oiso,okno⟩))) | _=>none) else
  none
 modes:=fun f=>
  if f=29 then some ([false,true,true],1,1) else
  if f=64 then some ([false,true],1,1) else
  none
 proc:=fun f xs bs=>
  if f=29 then (match xs,bs with | [AV.one (Cl.ptr 0 0),AV.one (Cl.d (DV.int _ n)),AV.one (Cl.d (DV.sl ln lxs))],[Bx.cells [Cl.ref 1 bn],Bx.row _ _ bxs]=>some ⟨AV.tup [],[bC [Cl.ref 1 (((ints bxs)++putL n.toNat (ints lxs)).length)],Bx.row 5 1 (u8s ((ints bxs)++putL n.toNat (ints lxs)))],false⟩ | _,_=>none) else
  if f=64 then (match xs,bs with | [AV.one (Cl.ptr 0 0),AV.agg [Cl.d (DV.int _ c0),Cl.d (DV.int _ c1),Cl.d (DV.int _ c2),Cl.d (DV.int _ ca),Cl.d (DV.int _ cf)]],[Bx.cells [Cl.ref 1 bn],Bx.row _ _ bxs]=>some ⟨AV.tup [],[bC [Cl.ref 1 (((ints bxs)++pxB ⟨c0,c1,c2,ca,cf⟩).length)],Bx.row 5 1 (u8s ((ints bxs)++pxB ⟨c0,c1,c2,ca,cf⟩))],false⟩ | _,_=>none) else
  none
 iter:=fun f cs=>
  none
def zXw (b:List Int) (n:Int) (l:List Int):Ann:=let zz0:=(1,aJ ((n))); let zz1:=(9,AV.one (Cl.d (dS l.length (is l)))); let zz2:=(10,aJ (((l.length:Int)))); let zz3:=fun (k:Nat)=>(11,aJ (((k:Int)))); (Ann.seq Ann.leaf (Ann.loop ⟨Nat,fun k=>k≤l.length,fun k=>⟨[(0,aPz),zz0,zz1,zz2,(zz3 k)],[(0,bC [Cl.ref 9001 ((b++putL n.toNat (l.take k)).length)]),(9001,Bx.row 5 1 (u8s (b++putL n.toNat (l.take k))))]⟩,fun k=>l.length - k⟩ fun k=>(Ann.seq Ann.leaf (Ann.seq Ann.leaf (Ann.seq (Ann.seq Ann.leaf (Ann.seq Ann.leaf (Ann.loop ⟨Nat,fun j=>j≤n.toNat,fun j=>⟨[(0,aPz),zz0,(7,aJ (((nAt (is l) ((k:Int).toNat*1))))),(8,aJ (((n - 1 - (j:Int))))),zz1,zz2,(zz3 k)],[(0,bC [Cl.ref 9002 ((b++putL n.toNat (l.take k)++(beI n.toNat (nAt (is l) k)).take j).length)]),(9002,Bx.row 5 1 (u8s (b++putL n.toNat (l.take k)++(beI n.toNat (nAt (is l) k)).take j)))]⟩,fun j=>n.toNat - j⟩ fun j=>Ann.leaf))) Ann.leaf)))))
theorem zJ1 (b:List Int) (n:Int) (l:List Int):vcg Try.prog zGf ⟨36,fun _=>false,List.range 1,false⟩ (zQl Try.f29) (zXw b n l) kn0 (zZq [AV.one (Cl.ptr 0 0),AV.one (Cl.d (DV.int .i64 n)),AV.one (Cl.d (DV.sl l.length (is l)))] [Bx.cells [Cl.ref 1 b.length],Bx.row 5 1 (u8s b)]) (zXg Try.prog ⟨36,fun _=>false,List.range 1,false⟩ Try.f29.results.toList ⟨AV.tup [],[Bx.cells [Cl.ref 1 ((b++putL n.toNat l).length)],Bx.row 5 1 (u8s (b++putL n.toNat l))],false⟩) =
  (let zz0:=(dJ n=dJ n); let zz1:=(dS l.length (is l)=dS l.length (is l)); let zz2:=(dJ (l.length:Int)=dJ (l.length:Int)); let zz3:=fun (k:Nat)=>(dJ (nAt (is l) ((k:Int).toNat*1))=dJ (nAt (is l) ((k:Int).toNat*1))); let zz4:=fun (k:Nat)=>(dJ (k:Int)=dJ (k:Int)); tU3 (((∃ k:Nat,(k≤l.length)∧(((0=0)∧zz0∧zz1∧zz2∧(dJ 0=dJ (k:Int))∧True)∧(((b.length=(b++putL n.toNat (l.take k)).length)∧True)∧(u8s b=u8s (b++putL n.toNat (l.take k)))∧True)))∧∀ k:Nat,(k≤l.length)→True∧(((decide ((k:Int) < (l.length:Int)))=true→(0≤(k:Int)∧(k:Int) < (l.length:Int)∧(k:Int).toNat*1 < (is l).length)∧(((is l)[(k:Int).toNat*1]?=some (dJ (nAt (is l) ((k:Int).toNat*1))))∧True)∧tU4 (((∃ j:Nat,(j≤n.toNat)∧(((0=0)∧zz0∧(zz3 k)∧(dJ (wK (n - (1:Int)))=dJ (n - 1 - (j:Int)))∧zz1∧zz2∧(zz4 k)∧True)∧((((b++putL n.toNat (l.take k)).length=(b++putL n.toNat (l.take k)++(beI n.toNat (nAt (is l) k)).take j).length)∧True)∧(u8s (b++putL n.toNat (l.take k))=u8s (b++putL n.toNat (l.take k)++(beI n.toNat (nAt (is l) k)).take j))∧True)))∧∀ j:Nat,(j≤n.toNat)→tU2 ((((decide ((n - 1 - (j:Int))≥(0:Int)))=true→tU8 ((0≤wK ((8:Int)*(n - 1 - (j:Int))))∧tU2 ((zQ8 1 1 ((b++putL n.toNat (l.take k)++(beI n.toNat (nAt (is l) k)).take j).length) 1 (u8s (b++putL n.toNat (l.take k)++(beI n.toNat (nAt (is l) k)).take j)) ([DV.int .u8 (IntKind.wrap .u8 (Int.fdiv (nAt (is l) ((k:Int).toNat*1)) (2 ^ min (wK ((8:Int)*(n - 1 - (j:Int)))).toNat 64)))]))∧tU3 ((true=true)∧tU3 (∃ j':Nat,(j'≤n.toNat)∧(n.toNat - j' < n.toNat - j)∧(((0=0)∧zz0∧(zz3 k)∧(dJ (wK ((n - 1 - (j:Int)) - (1:Int)))=dJ (n - 1 - (j':Int)))∧zz1∧zz2∧(zz4 k)∧True)∧(((((b++putL n.toNat (l.take k)++(beI n.toNat (nAt (is l) k)).take j).length)+1=(b++putL n.toNat (l.take k)++(beI n.toNat (nAt (is l) k)).take j').length)∧True)∧((u8s (b++putL n.toNat (l.take k)++(beI n.toNat (nAt (is l) k)).take j))++([DV.int .u8 (IntKind.wrap .u8 (Int.fdiv (nAt (is l) ((k:Int).toNat*1)) (2 ^ min (wK ((8:Int)*(n - 1 - (j:Int)))).toNat 64)))])=u8s (b++putL n.toNat (l.take k)++(beI n.toNat (nAt (is l) k)).take j'))∧True)))))))∧((decide ((n - 1 - (j:Int))≥(0:Int)))=false→tU2 (∃ k':Nat,(k'≤l.length)∧(l.length - k' < l.length - k)∧(((0=0)∧zz0∧zz1∧zz2∧(dJ (wK ((k:Int)+(1:Int)))=dJ (k':Int))∧True)∧((((b++putL n.toNat (l.take k)++(beI n.toNat (nAt (is l) k)).take j).length=(b++putL n.toNat (l.take k')).length)∧True)∧(u8s (b++putL n.toNat (l.take k)++(beI n.toNat (nAt (is l) k)).take j)=u8s (b++putL n.toNat (l.take k')))∧True)))))))))∧((decide ((k:Int) < (l.length:Int)))=false→((True∧True)∧((((b++putL n.toNat (l.take k)).length=(b++putL n.toNat l).length)∧True)∧(u8s (b++putL n.toNat (l.take k))=u8s (b++putL n.toNat l))∧True))∧zQx ⟨AV.tup [],[bC [Cl.ref 1 ((b++putL n.toNat l).length)],Bx.row 5 1 (u8s (b++putL n.toNat l))],false⟩))))):=by kernel_rfl
theorem zQh (b:List Int) (n:Int) (l:List Int) (hn:1≤n∧n≤8) (hb:b.length+n.toNat*l.length≤1000000000):AnsG Try.prog 29 1 [AV.one (Cl.ptr 0 0),AV.one (Cl.d (DV.int .i64 n)),AV.one (Cl.d (DV.sl l.length (is l)))] [Bx.cells [Cl.ref 1 b.length],Bx.row 5 1 (u8s b)] ⟨AV.tup [],[Bx.cells [Cl.ref 1 ((b++putL n.toNat l).length)],Bx.row 5 1 (u8s (b++putL n.toNat l))],false⟩:=
  zQR (Γ:=zGf) (zXw b n l) zQq Try.func29 rfl (Nat.le_of_ble_eq_true rfl) rfl fun hwf hbx=>by
    refine Eq.mpr (zJ1 b n l) ?_
    delta tU2 tU3 tU4 tU8 dJ wK dS bC
    simp only [true_and,and_true,RV.d.injEq,RV.agg.injEq,RV.tup.injEq,DV.bool.injEq,DV.int.injEq,DV.sl.injEq,List.cons.injEq,forall_const,Bool.not_false,Bool.not_true,Bool.not_eq_true',Bool.not_eq_false',decide_eq_true_eq,decide_eq_false_iff_not,Int.toNat_natCast]
    obtain ⟨hn0,hn8⟩:=hn
    generalize hN:n.toNat=N at *
    have hnN:n=(N:Int):=by omega
    subst hnN
    have hN8:1≤N∧N≤8:=by omega
    have hll:l.length≤N*l.length:=Nat.le_mul_of_pos_left _ (by omega)
    clear hN hn0 hn8
    have ht:∀ {k:Nat},k≤l.length→(putL N (l.take k)).length=k*N:=fun {k} h=>by rw [zQI,List.length_take,Nat.min_eq_left h]
    have hkn:∀ k:Nat,k < l.length→(k+1)*N≤N*l.length:=fun k h=>by rw [Nat.mul_comm]; exact Nat.mul_le_mul_left N h
    refine ⟨⟨0,Nat.zero_le _,rfl,by simp [putL],by simp [putL]⟩,fun k hk=>⟨fun hlt=>?_,fun hge=>?_⟩⟩
    · have hk':k < l.length:=by omega
      obtain ⟨q1,q2⟩:=jJM hk'
      have w1:IntKind.wrap .i64 ((k:Int)+1)=((k+1:Nat):Int):=by rw [IntWalk.i64_in _ ⟨by omega,by omega⟩]; omega
      have w2:IntKind.wrap .i64 ((N:Int) - 1)=(N:Int) - 1:=IntWalk.i64_in _ ⟨by omega,by omega⟩
      simp only [Nat.mul_one,q2,w1,w2]
      refine ⟨⟨by omega,by omega,by rw [zQW]; omega⟩,q1,⟨0,Nat.zero_le _,by omega,by simp,by simp⟩,fun j hj=>⟨fun hj0=>?_,fun hj0=>?_⟩⟩
      · have hjN:j < N:=by omega
        have hi:∃ i:Nat,(i:Int)=(N:Int) - 1 - (j:Int)∧i=N - 1 - j:=⟨N - 1 - j,by omega,rfl⟩
        obtain ⟨i,hi,hi2⟩:=hi
        rw [← hi,jKp _ (by omega:i < 8),hi2]
        have hb1:=zHI (v:=l[k]) hjN
        have hl1:((beI N l[k]).take j).length=j:=by rw [List.length_take,zQF,Nat.min_eq_left (by omega)]
        have hl2:=ht (Nat.le_of_lt hk')
        have hl3:=hkn k hk'
        have hl4:(k+1)*N=k*N+N:=Nat.succ_mul k N
        have w3:IntKind.wrap .i64 (8*(i:Int))=8*(i:Int):=IntWalk.i64_in _ ⟨by omega,by omega⟩
        have w4:IntKind.wrap .i64 ((i:Int) - 1)=(i:Int) - 1:=IntWalk.i64_in _ ⟨by omega,by omega⟩
        rw [← hi2,w3,w4]
        refine ⟨by omega,⟨by rw [zX4,Nat.mul_one],rfl,?_,?_⟩,j+1,by omega,by omega,by omega,?_,?_⟩
        · simp only [List.length_append,hl1,hl2,maxLen]; omega
        · simp only [List.length_append,hl1,hl2]; omega
        · rw [hb1]; simp only [List.length_append,List.length_cons,List.length_nil]; omega
        · rw [hb1,hi2]; simp [u8s]
      · have:j=N:=by omega
        subst this
        refine ⟨k+1,by omega,by omega,rfl,?_,?_⟩
        · rw [zW0 hk',List.take_of_length_le (l:=beI j l[k]) (by rw [zQF]; omega),List.append_assoc]
        · rw [zW0 hk',List.take_of_length_le (l:=beI j l[k]) (by rw [zQF]; omega),List.append_assoc]
    · have:k=l.length:=by omega
      subst this
      rw [List.take_length]
      exact ⟨⟨rfl,rfl⟩,trivial⟩
def zZ2 (b:List Int) (p:Px):Ann:=Ann.leaf
theorem zY5 (b:List Int) (p:Px):vcg Try.prog zGf ⟨25,fun _=>false,List.range 1,false⟩ (zQl Try.f64) (zZ2 b p) kn0 (zZq [AV.one (Cl.ptr 0 0),AV.agg [Cl.d (DV.int .u16 p.a),Cl.d (DV.int .u16 p.b),Cl.d (DV.int .u16 p.c),Cl.d (DV.int .u16 p.al),Cl.d (DV.int .u16 p.f)]] [Bx.cells [Cl.ref 1 b.length],Bx.row 5 1 (u8s b)]) (zXg Try.prog ⟨25,fun _=>false,List.range 1,false⟩ Try.f64.results.toList ⟨AV.tup [],[Bx.cells [Cl.ref 1 ((b++pxB p).length)],Bx.row 5 1 (u8s (b++pxB p))],false⟩) =
  (tU3 ((0≤(0:Int)∧(0:Int) < ((3:Nat):Int))∧tU3 ((0≤(1:Int)∧(1:Int) < ((3:Nat):Int))∧tU3 ((0≤(2:Int)∧(2:Int) < ((3:Nat):Int))∧True∧tU8 ((AnsG Try.prog 29 1 [aPz,aJ ((2)),AV.one (Cl.d (dS 5 ([dJ (wK p.a),dJ (wK p.b),dJ (wK p.c),dJ (wK p.al),dJ (wK p.f)])))] [bC [Cl.ref 1 b.length],Bx.row 5 1 (u8s b)] ⟨AV.tup [],[bC [Cl.ref 1 (((iU (b))++putL 2 (ints ([dJ (wK p.a),dJ (wK p.b),dJ (wK p.c),dJ (wK p.al),dJ (wK p.f)]))).length)],Bx.row 5 1 (u8s ((iU (b))++putL 2 (ints ([dJ (wK p.a),dJ (wK p.b),dJ (wK p.c),dJ (wK p.al),dJ (wK p.f)]))))],false⟩)∧((True∧True)∧(((((iU (b))++putL 2 (ints ([dJ (wK p.a),dJ (wK p.b),dJ (wK p.c),dJ (wK p.al),dJ (wK p.f)]))).length=(b++pxB p).length)∧True)∧(u8s ((iU (b))++putL 2 (ints ([dJ (wK p.a),dJ (wK p.b),dJ (wK p.c),dJ (wK p.al),dJ (wK p.f)])))=u8s (b++pxB p))∧True))∧zQx ⟨AV.tup [],[bC [Cl.ref 1 ((b++pxB p).length)],Bx.row 5 1 (u8s (b++pxB p))],false⟩))))):=by kernel_rfl
theorem zZ1 (b:List Int) (p:Px) (hb:b.length≤900000000):AnsG Try.prog 64 1 [AV.one (Cl.ptr 0 0),AV.agg [Cl.d (DV.int .u16 p.a),Cl.d (DV.int .u16 p.b),Cl.d (DV.int .u16 p.c),Cl.d (DV.int .u16 p.al),Cl.d (DV.int .u16 p.f)]] [Bx.cells [Cl.ref 1 b.length],Bx.row 5 1 (u8s b)] ⟨AV.tup [],[Bx.cells [Cl.ref 1 ((b++pxB p).length)],Bx.row 5 1 (u8s (b++pxB p))],false⟩:=
  zQR (Γ:=zGf) (zZ2 b p) zQq Try.func64 rfl (Nat.le_of_ble_eq_true rfl) rfl fun hwf hbx=>by
    refine Eq.mpr (zY5 b p) ?_
    delta tU3 tU8 dJ wK dS aJ aPz bC iU
    simp only [true_and,and_true,RV.d.injEq,RV.agg.injEq,RV.tup.injEq,DV.bool.injEq,DV.int.injEq,DV.sl.injEq,List.cons.injEq,forall_const,Bool.not_false,Bool.not_true,Bool.not_eq_true',Bool.not_eq_false',decide_eq_true_eq,decide_eq_false_iff_not,Int.toNat_natCast]
    simp only [AV.wfL,AV.wf,Cl.wfs,DV.wf] at hwf
    have w0:∀ n:Int,0≤n∧n≤65535→IntKind.wrap .i64 n=n:=fun n h=>IntWalk.i64_in _ ⟨by omega,by omega⟩
    obtain ⟨_,⟨h1,h2,h3,h4,h5,_⟩,_⟩:=hwf
    simp only [zQZ,zJp,zK5,w0 _ h1,w0 _ h2,w0 _ h3,w0 _ h4,w0 _ h5]
    refine ⟨by omega,by omega,by omega,?_⟩
    have h:=zQh b 2 [p.a,p.b,p.c,p.al,p.f] ⟨by omega,by omega⟩ (by simp; omega)
    exact ⟨h,⟨rfl,rfl⟩,trivial⟩
def zYW (o:Oq):Ann:=Ann.leaf
theorem zWN (o:Oq):vcg Try.prog zGf 13 (zQl Try.f66) (zYW o) kn0 (zQN [RV.agg [DV.int .i64 o.kind,DV.int .i64 o.image,DV.int .i64 o.x,DV.int .i64 o.y,DV.int .i64 o.mask,DV.int .i64 o.mx,DV.int .i64 o.my,DV.int .u16 o.opac,DV.int .i64 o.oper,DV.int .i64 o.mode,DV.bool o.iso,DV.bool o.kno]]) (post Try.prog Try.f66.results.toList (·=RV.d (DV.int .i64 (zXe ⟨o.kind,o.image,o.x,o.y,o.mask,o.mx,o.my,o.opac,o.oper,o.mode,o.iso,o.kno⟩)))) =
  (let zz0:=(wK ((0:Int)+(1:Int))); let zz1:=(dJ (zXe ⟨o.kind,o.image,o.x,o.y,o.mask,o.mx,o.my,o.opac,o.oper,o.mode,o.iso,o.kno⟩)); tU5 (((o.iso=true→tU5 (((o.kno=true→tU5 (rJ ((wK (zz0+(2:Int))))=RV.d zz1))∧(o.kno=false→tU2 (rJ (zz0)=RV.d zz1)))))∧(o.iso=false→tU2 (((o.kno=true→tU5 (rJ ((wK ((0:Int)+(2:Int))))=RV.d zz1))∧(o.kno=false→tU2 (rJ (0)=RV.d zz1)))))))):=by kernel_rfl
theorem zWg (o:Oq):Ans Try.prog 66 [RV.agg [DV.int .i64 o.kind,DV.int .i64 o.image,DV.int .i64 o.x,DV.int .i64 o.y,DV.int .i64 o.mask,DV.int .i64 o.mx,DV.int .i64 o.my,DV.int .u16 o.opac,DV.int .i64 o.oper,DV.int .i64 o.mode,DV.bool o.iso,DV.bool o.kno]] (RV.d (DV.int .i64 (zXe ⟨o.kind,o.image,o.x,o.y,o.mask,o.mx,o.my,o.opac,o.oper,o.mode,o.iso,o.kno⟩))):=
  zQf (Γ:=zGf) (zYW o) zQq Try.func66 rfl (Nat.le_of_ble_eq_true rfl) fun hwf=>by
    refine Eq.mpr (zWN o) ?_
    delta tU2 tU5 dJ wK rJ
    simp only [true_and,and_true,RV.d.injEq,RV.agg.injEq,RV.tup.injEq,DV.bool.injEq,DV.int.injEq,DV.sl.injEq,List.cons.injEq,forall_const,Bool.not_false,Bool.not_true,Bool.not_eq_true',Bool.not_eq_false',decide_eq_true_eq,decide_eq_false_iff_not,Int.toNat_natCast]
    have:=o.iso; unfold zXe; cases o.iso <;> cases o.kno <;> decide
def zZ3 (b:List Int) (m:Im):Ann:=(Ann.seq Ann.leaf (Ann.seq Ann.leaf (Ann.seq Ann.leaf (Ann.seq Ann.leaf (Ann.seq Ann.leaf (Ann.loop ⟨Nat,fun k=>k≤m.pixels.length,fun k=>⟨[(0,aPz),(33,AV.one (Cl.ref 33 ((Im.pixels m).length))),(34,aJ (((((Im.pixels m).length:Nat):Int)))),(35,aJ (((k:Int))))],[(0,bC [Cl.ref 9001 ((b++(putL 1 [0]++putL 4 [m.w,m.h]++(m.pixels.take k).flatMap pxB)).length)]),(33,Bx.row 37 5 (pxs (Im.pixels m))),(9001,Bx.row 5 1 (u8s (b++(putL 1 [0]++putL 4 [m.w,m.h]++(m.pixels.take k).flatMap pxB))))]⟩,fun k=>m.pixels.length - k⟩ fun k=>Ann.leaf))))))
theorem zY6 (b:List Int) (m:Im):vcg Try.prog zGf ⟨43,fun _=>false,List.range 1,false⟩ (zQl Try.f30) (zZ3 b m) kn0 (zZq [AV.one (Cl.ptr 0 0),(imD (m))] [Bx.cells [Cl.ref 1 b.length],Bx.row 5 1 (u8s b)]) (zXg Try.prog ⟨43,fun _=>false,List.range 1,false⟩ Try.f30.results.toList ⟨AV.tup [],[Bx.cells [Cl.ref 1 ((b++imB_ m).length)],Bx.row 5 1 (u8s (b++imB_ m))],false⟩) =
  (let zz0:=(cJ (1)); let zz1:=[bC [Cl.ref 1 b.length],Bx.row 5 1 (u8s b)]; let zz2:=[bC [Cl.ref 1 (((iU (b))++putL 1 (ints ([dJ 1]))).length)],Bx.row 5 1 (u8s ((iU (b))++putL 1 (ints ([dJ 1]))))]; let zz3:=[aPz,aJ ((4)),AV.one (Cl.d (dS 2 ([dJ m.w,dJ m.h])))]; let zz4:=[bC [Cl.ref 1 (((iU (((iU (b))++putL 1 (ints ([dJ 1])))))++putL 4 (ints ([dJ m.w,dJ m.h]))).length)],Bx.row 5 1 (u8s ((iU (((iU (b))++putL 1 (ints ([dJ 1])))))++putL 4 (ints ([dJ m.w,dJ m.h]))))]; let zz5:=[bC [Cl.ref 1 (((iU (b))++putL 1 (ints ([dJ 0]))).length)],Bx.row 5 1 (u8s ((iU (b))++putL 1 (ints ([dJ 0]))))]; let zz6:=((Im.pixels m).length=(Im.pixels m).length); let zz7:=(dJ (((Im.pixels m).length:Nat):Int)=dJ (((Im.pixels m).length:Nat):Int)); let zz8:=(pxs (Im.pixels m)=pxs (Im.pixels m)); tU3 (((m.so=true→tU2 ((AnsG Try.prog 29 1 [aPz,AV.one zz0,AV.one (Cl.d (dS 1 ([dJ 1])))] zz1 ⟨AV.tup [],zz2,false⟩)∧tU6 ((AnsG Try.prog 29 1 zz3 zz2 ⟨AV.tup [],zz4,false⟩)∧tU3 ((AnsG Try.prog 64 1 [aPz,AV.agg [cK (m.c.a),cK (m.c.b),cK (m.c.c),cK (m.c.al),cK (m.c.f)]] zz4 ⟨AV.tup [],[bC [Cl.ref 1 (((iU (((iU (((iU (b))++putL 1 (ints ([dJ 1])))))++putL 4 (ints ([dJ m.w,dJ m.h])))))++pxB m.c).length)],Bx.row 5 1 (u8s ((iU (((iU (((iU (b))++putL 1 (ints ([dJ 1])))))++putL 4 (ints ([dJ m.w,dJ m.h])))))++pxB m.c))],false⟩)∧((True∧True)∧(((((iU (((iU (((iU (b))++putL 1 (ints ([dJ 1])))))++putL 4 (ints ([dJ m.w,dJ m.h])))))++pxB m.c).length=(b++imB_ m).length)∧True)∧(u8s ((iU (((iU (((iU (b))++putL 1 (ints ([dJ 1])))))++putL 4 (ints ([dJ m.w,dJ m.h])))))++pxB m.c)=u8s (b++imB_ m))∧True))∧zQx ⟨AV.tup [],[bC [Cl.ref 1 ((b++imB_ m).length)],Bx.row 5 1 (u8s (b++imB_ m))],false⟩))))∧(m.so=false→tU2 ((AnsG Try.prog 29 1 [aPz,AV.one zz0,AV.one (Cl.d (dS 1 ([dJ 0])))] zz1 ⟨AV.tup [],zz5,false⟩)∧tU6 ((AnsG Try.prog 29 1 zz3 zz5 ⟨AV.tup [],[bC [Cl.ref 1 (((iU (((iU (b))++putL 1 (ints ([dJ 0])))))++putL 4 (ints ([dJ m.w,dJ m.h]))).length)],Bx.row 5 1 (u8s ((iU (((iU (b))++putL 1 (ints ([dJ 0])))))++putL 4 (ints ([dJ m.w,dJ m.h]))))],false⟩)∧True∧(AnsO Try.prog 65 [(imR (m))] 37 5 ((Im.pixels m).length) (pxs (Im.pixels m)))∧((Im.pixels m).length≤maxLen)∧True∧((∃ k:Nat,(k≤m.pixels.length)∧(((0=0)∧zz6∧zz7∧(dJ 0=dJ (k:Int))∧True)∧(((((iU (((iU (b))++putL 1 (ints ([dJ 0])))))++putL 4 (ints ([dJ m.w,dJ m.h]))).length=(b++(putL 1 [0]++putL 4 [m.w,m.h]++(m.pixels.take k).flatMap pxB)).length)∧True)∧zz8∧(u8s ((iU (((iU (b))++putL 1 (ints ([dJ 0])))))++putL 4 (ints ([dJ m.w,dJ m.h])))=u8s (b++(putL 1 [0]++putL 4 [m.w,m.h]++(m.pixels.take k).flatMap pxB)))∧True)))∧∀ k:Nat,(k≤m.pixels.length)→True∧(((decide ((k:Int) < (((Im.pixels m).length:Nat):Int)))=true→(0≤(k:Int)∧(k:Int) < (((Im.pixels m).length:Nat):Int))∧((pxQr (pxs (Im.pixels m)) ((k:Int).toNat*5)))∧tU4 ((AnsG Try.prog 64 1 [aPz,pxD (pxQ (pxs (Im.pixels m)) ((k:Int).toNat*5))] [bC [Cl.ref 1 ((b++(putL 1 [0]++putL 4 [m.w,m.h]++(m.pixels.take k).flatMap pxB)).length)],Bx.row 5 1 (u8s (b++(putL 1 [0]++putL 4 [m.w,m.h]++(m.pixels.take k).flatMap pxB)))] ⟨AV.tup [],[bC [Cl.ref 1 (((iU ((b++(putL 1 [0]++putL 4 [m.w,m.h]++(m.pixels.take k).flatMap pxB))))++pxB (pxQ (pxs (Im.pixels m)) ((k:Int).toNat*5))).length)],Bx.row 5 1 (u8s ((iU ((b++(putL 1 [0]++putL 4 [m.w,m.h]++(m.pixels.take k).flatMap pxB))))++pxB (pxQ (pxs (Im.pixels m)) ((k:Int).toNat*5))))],false⟩)∧tU2 (∃ k':Nat,(k'≤m.pixels.length)∧(m.pixels.length - k' < m.pixels.length - k)∧(((0=0)∧zz6∧zz7∧(dJ (wK ((k:Int)+(1:Int)))=dJ (k':Int))∧True)∧(((((iU ((b++(putL 1 [0]++putL 4 [m.w,m.h]++(m.pixels.take k).flatMap pxB))))++pxB (pxQ (pxs (Im.pixels m)) ((k:Int).toNat*5))).length=(b++(putL 1 [0]++putL 4 [m.w,m.h]++(m.pixels.take k').flatMap pxB)).length)∧True)∧zz8∧(u8s ((iU ((b++(putL 1 [0]++putL 4 [m.w,m.h]++(m.pixels.take k).flatMap pxB))))++pxB (pxQ (pxs (Im.pixels m)) ((k:Int).toNat*5)))=u8s (b++(putL 1 [0]++putL 4 [m.w,m.h]++(m.pixels.take k').flatMap pxB)))∧True)))))∧((decide ((k:Int) < (((Im.pixels m).length:Nat):Int)))=false→((True∧True)∧((((b++(putL 1 [0]++putL 4 [m.w,m.h]++(m.pixels.take k).flatMap pxB)).length=(b++imB_ m).length)∧True)∧(u8s (b++(putL 1 [0]++putL 4 [m.w,m.h]++(m.pixels.take k).flatMap pxB))=u8s (b++imB_ m))∧True))∧zQx ⟨AV.tup [],[bC [Cl.ref 1 ((b++imB_ m).length)],Bx.row 5 1 (u8s (b++imB_ m))],false⟩))))))))):=by kernel_rfl
theorem zYA (b:List Int) (m:Im) (hf:m.formed=true) (hu:m.isU) (hb:b.length≤500000000):AnsG Try.prog 30 1 [AV.one (Cl.ptr 0 0),(imD (m))] [Bx.cells [Cl.ref 1 b.length],Bx.row 5 1 (u8s b)] ⟨AV.tup [],[Bx.cells [Cl.ref 1 ((b++imB_ m).length)],Bx.row 5 1 (u8s (b++imB_ m))],false⟩:=
  zQR (Γ:=zGf) (zZ3 b m) zQq Try.func30 rfl (Nat.le_of_ble_eq_true rfl) rfl fun hwf hbx=>by
    refine Eq.mpr (zY6 b m) ?_
    delta tU2 tU3 tU4 tU6 dJ cJ cK wK dS aJ aPz bC iU
    simp only [true_and,and_true,RV.d.injEq,RV.agg.injEq,RV.tup.injEq,DV.bool.injEq,DV.int.injEq,DV.sl.injEq,List.cons.injEq,forall_const,Bool.not_false,Bool.not_true,Bool.not_eq_true',Bool.not_eq_false',decide_eq_true_eq,decide_eq_false_iff_not,Int.toNat_natCast,pxQ,pxQr,pxD]
    simp only [zQZ,zJp,zK5]
    have hpx:=Im.pixels_len hf
    have hpl:m.pixels.length≤16777216:=by have:=(sizeIm_le' hf); omega
    have po:=zUx m hu
    have e1:m.so=true→b++putL 1 [1]++putL 4 [m.w,m.h]++pxB m.c=b++imB_ m:=fun h=>by simp [imB_,h]
    refine ⟨fun h=>⟨zQh (b) 1 [1] ⟨by omega,by omega⟩ (by simp only [List.length_append,zQI,zXb,List.length_cons,List.length_nil]; omega),zQh (b++putL 1 [1]) 4 [m.w,m.h] ⟨by omega,by omega⟩ (by simp only [List.length_append,zQI,zXb,List.length_cons,List.length_nil]; omega),zZ1 (b++putL 1 [1]++putL 4 [m.w,m.h]) m.c (by simp only [List.length_append,zQI,zXb,List.length_cons,List.length_nil]; omega),⟨⟨by rw [e1 h],by rw [e1 h]⟩,trivial⟩⟩,fun h=>⟨zQh (b) 1 [0] ⟨by omega,by omega⟩ (by simp only [List.length_append,zQI,zXb,List.length_cons,List.length_nil]; omega),zQh (b++putL 1 [0]) 4 [m.w,m.h] ⟨by omega,by omega⟩ (by simp only [List.length_append,zQI,zXb,List.length_cons,List.length_nil]; omega),po,by unfold maxLen; omega,⟨0,Nat.zero_le _,rfl,by simp,by simp⟩,fun k hk=>⟨fun hlt=>?_,fun hge=>?_⟩⟩⟩
    · have hk':k < m.pixels.length:=by omega
      have w1:IntKind.wrap .i64 ((k:Int)+1)=((k+1:Nat):Int):=by rw [IntWalk.i64_in _ ⟨by omega,by omega⟩]; omega
      obtain ⟨x0,x1,x2,x3,x4⟩:=zWZ hk'
      have n0:nAt (pxs m.pixels) (k*5)=m.pixels[k].a:=by simp [nAt,x0]
      have n1:nAt (pxs m.pixels) (k*5+1)=m.pixels[k].b:=by simp [nAt,x1]
      have n2:nAt (pxs m.pixels) (k*5+1+1)=m.pixels[k].c:=by simp [nAt,x2]
      have n3:nAt (pxs m.pixels) (k*5+1+1+1)=m.pixels[k].al:=by simp [nAt,x3]
      have n4:nAt (pxs m.pixels) (k*5+1+1+1+1)=m.pixels[k].f:=by simp [nAt,x4]
      simp only [n0,n1,n2,n3,n4,w1]
      have hL:(b++(putL 1 [0]++putL 4 [m.w,m.h]++(m.pixels.take k).flatMap pxB)).length≤900000000:=by
        simp only [List.length_append,zQI,jZ0,List.length_take,List.length_cons,List.length_nil]
        omega
      have hT:b++(putL 1 [0]++putL 4 [m.w,m.h]++(m.pixels.take k).flatMap pxB)++pxB m.pixels[k]=b++(putL 1 [0]++putL 4 [m.w,m.h]++(m.pixels.take (k+1)).flatMap pxB):=by
        rw [List.take_succ_eq_append_getElem hk',List.flatMap_append]
        simp only [List.append_assoc,List.flatMap_cons,List.flatMap_nil,List.append_nil]
      exact ⟨⟨by omega,by omega⟩,⟨x0,x1,x2,x3,x4⟩,zZ1 _ m.pixels[k] hL,k+1,by omega,by omega,rfl,by rw [← hT],by rw [← hT]⟩
    · have:k=m.pixels.length:=by omega
      subst this
      have e0:b++(putL 1 [0]++putL 4 [m.w,m.h]++m.pixels.flatMap pxB)=b++imB_ m:=by simp [imB_,h]
      rw [List.take_length,e0]
      exact ⟨⟨rfl,rfl⟩,trivial⟩
def zXA (b:List Int) (o:Oq):Ann:=Ann.leaf
theorem zKv (b:List Int) (o:Oq):vcg Try.prog zGf ⟨45,fun _=>false,List.range 1,false⟩ (zQl Try.f31) (zXA b o) kn0 (zZq [AV.one (Cl.ptr 0 0),AV.agg [Cl.d (DV.int .i64 o.kind),Cl.d (DV.int .i64 o.image),Cl.d (DV.int .i64 o.x),Cl.d (DV.int .i64 o.y),Cl.d (DV.int .i64 o.mask),Cl.d (DV.int .i64 o.mx),Cl.d (DV.int .i64 o.my),Cl.d (DV.int .u16 o.opac),Cl.d (DV.int .i64 o.oper),Cl.d (DV.int .i64 o.mode),Cl.d (DV.bool o.iso),Cl.d (DV.bool o.kno)]] [Bx.cells [Cl.ref 1 b.length],Bx.row 5 1 (u8s b)]) (zXg Try.prog ⟨45,fun _=>false,List.range 1,false⟩ Try.f31.results.toList ⟨AV.tup [],[Bx.cells [Cl.ref 1 ((b++opB ⟨o.kind,o.image,o.x,o.y,o.mask,o.mx,o.my,o.opac,o.oper,o.mode,o.iso,o.kno⟩).length)],Bx.row 5 1 (u8s (b++opB ⟨o.kind,o.image,o.x,o.y,o.mask,o.mx,o.my,o.opac,o.oper,o.mode,o.iso,o.kno⟩))],false⟩) =
  (let zz0:=(cJ (1)); let zz1:=[bC [Cl.ref 1 (((iU (b))++putL 1 (ints ([dJ o.kind,dJ o.image]))).length)],Bx.row 5 1 (u8s ((iU (b))++putL 1 (ints ([dJ o.kind,dJ o.image]))))]; let zz2:=(cJ (4)); let zz3:=[bC [Cl.ref 1 (((iU (((iU (b))++putL 1 (ints ([dJ o.kind,dJ o.image])))))++putL 4 (ints ([dJ o.x,dJ o.y]))).length)],Bx.row 5 1 (u8s ((iU (((iU (b))++putL 1 (ints ([dJ o.kind,dJ o.image])))))++putL 4 (ints ([dJ o.x,dJ o.y]))))]; let zz4:=[bC [Cl.ref 1 (((iU (((iU (((iU (b))++putL 1 (ints ([dJ o.kind,dJ o.image])))))++putL 4 (ints ([dJ o.x,dJ o.y])))))++putL 1 (ints ([dJ o.mask]))).length)],Bx.row 5 1 (u8s ((iU (((iU (((iU (b))++putL 1 (ints ([dJ o.kind,dJ o.image])))))++putL 4 (ints ([dJ o.x,dJ o.y])))))++putL 1 (ints ([dJ o.mask]))))]; let zz5:=[bC [Cl.ref 1 (((iU (((iU (((iU (((iU (b))++putL 1 (ints ([dJ o.kind,dJ o.image])))))++putL 4 (ints ([dJ o.x,dJ o.y])))))++putL 1 (ints ([dJ o.mask])))))++putL 4 (ints ([dJ o.mx,dJ o.my]))).length)],Bx.row 5 1 (u8s ((iU (((iU (((iU (((iU (b))++putL 1 (ints ([dJ o.kind,dJ o.image])))))++putL 4 (ints ([dJ o.x,dJ o.y])))))++putL 1 (ints ([dJ o.mask])))))++putL 4 (ints ([dJ o.mx,dJ o.my]))))]; let zz6:=[bC [Cl.ref 1 (((iU (((iU (((iU (((iU (((iU (b))++putL 1 (ints ([dJ o.kind,dJ o.image])))))++putL 4 (ints ([dJ o.x,dJ o.y])))))++putL 1 (ints ([dJ o.mask])))))++putL 4 (ints ([dJ o.mx,dJ o.my])))))++putL 2 (ints ([dJ (wK o.opac)]))).length)],Bx.row 5 1 (u8s ((iU (((iU (((iU (((iU (((iU (b))++putL 1 (ints ([dJ o.kind,dJ o.image])))))++putL 4 (ints ([dJ o.x,dJ o.y])))))++putL 1 (ints ([dJ o.mask])))))++putL 4 (ints ([dJ o.mx,dJ o.my])))))++putL 2 (ints ([dJ (wK o.opac)]))))]; tU7 ((AnsG Try.prog 29 1 [aPz,AV.one zz0,AV.one (Cl.d (dS 2 ([dJ o.kind,dJ o.image])))] [bC [Cl.ref 1 b.length],Bx.row 5 1 (u8s b)] ⟨AV.tup [],zz1,false⟩)∧tU6 ((AnsG Try.prog 29 1 [aPz,AV.one zz2,AV.one (Cl.d (dS 2 ([dJ o.x,dJ o.y])))] zz1 ⟨AV.tup [],zz3,false⟩)∧tU4 ((AnsG Try.prog 29 1 [aPz,AV.one zz0,AV.one (Cl.d (dS 1 ([dJ o.mask])))] zz3 ⟨AV.tup [],zz4,false⟩)∧tU6 ((AnsG Try.prog 29 1 [aPz,AV.one zz2,AV.one (Cl.d (dS 2 ([dJ o.mx,dJ o.my])))] zz4 ⟨AV.tup [],zz5,false⟩)∧tU5 ((AnsG Try.prog 29 1 [aPz,aJ ((2)),AV.one (Cl.d (dS 1 ([dJ (wK o.opac)])))] zz5 ⟨AV.tup [],zz6,false⟩)∧tU6 ((Ans Try.prog 66 [RV.agg (Oq.cells (o))] (rJ ((zXe ⟨o.kind,o.image,o.x,o.y,o.mask,o.mx,o.my,o.opac,o.oper,o.mode,o.iso,o.kno⟩))))∧True∧(AnsG Try.prog 29 1 [aPz,AV.one zz0,AV.one (Cl.d (dS 3 ([dJ o.oper,dJ o.mode,dJ (zXe ⟨o.kind,o.image,o.x,o.y,o.mask,o.mx,o.my,o.opac,o.oper,o.mode,o.iso,o.kno⟩)])))] zz6 ⟨AV.tup [],[bC [Cl.ref 1 (((iU (((iU (((iU (((iU (((iU (((iU (b))++putL 1 (ints ([dJ o.kind,dJ o.image])))))++putL 4 (ints ([dJ o.x,dJ o.y])))))++putL 1 (ints ([dJ o.mask])))))++putL 4 (ints ([dJ o.mx,dJ o.my])))))++putL 2 (ints ([dJ (wK o.opac)])))))++putL 1 (ints ([dJ o.oper,dJ o.mode,dJ (zXe ⟨o.kind,o.image,o.x,o.y,o.mask,o.mx,o.my,o.opac,o.oper,o.mode,o.iso,o.kno⟩)]))).length)],Bx.row 5 1 (u8s ((iU (((iU (((iU (((iU (((iU (((iU (b))++putL 1 (ints ([dJ o.kind,dJ o.image])))))++putL 4 (ints ([dJ o.x,dJ o.y])))))++putL 1 (ints ([dJ o.mask])))))++putL 4 (ints ([dJ o.mx,dJ o.my])))))++putL 2 (ints ([dJ (wK o.opac)])))))++putL 1 (ints ([dJ o.oper,dJ o.mode,dJ (zXe ⟨o.kind,o.image,o.x,o.y,o.mask,o.mx,o.my,o.opac,o.oper,o.mode,o.iso,o.kno⟩)]))))],false⟩)∧(true=true)∧((True∧True)∧(((((iU (((iU (((iU (((iU (((iU (((iU (b))++putL 1 (ints ([dJ o.kind,dJ o.image])))))++putL 4 (ints ([dJ o.x,dJ o.y])))))++putL 1 (ints ([dJ o.mask])))))++putL 4 (ints ([dJ o.mx,dJ o.my])))))++putL 2 (ints ([dJ (wK o.opac)])))))++putL 1 (ints ([dJ o.oper,dJ o.mode,dJ (zXe ⟨o.kind,o.image,o.x,o.y,o.mask,o.mx,o.my,o.opac,o.oper,o.mode,o.iso,o.kno⟩)]))).length=(b++opB ⟨o.kind,o.image,o.x,o.y,o.mask,o.mx,o.my,o.opac,o.oper,o.mode,o.iso,o.kno⟩).length)∧True)∧(u8s ((iU (((iU (((iU (((iU (((iU (((iU (b))++putL 1 (ints ([dJ o.kind,dJ o.image])))))++putL 4 (ints ([dJ o.x,dJ o.y])))))++putL 1 (ints ([dJ o.mask])))))++putL 4 (ints ([dJ o.mx,dJ o.my])))))++putL 2 (ints ([dJ (wK o.opac)])))))++putL 1 (ints ([dJ o.oper,dJ o.mode,dJ (zXe ⟨o.kind,o.image,o.x,o.y,o.mask,o.mx,o.my,o.opac,o.oper,o.mode,o.iso,o.kno⟩)])))=u8s (b++opB ⟨o.kind,o.image,o.x,o.y,o.mask,o.mx,o.my,o.opac,o.oper,o.mode,o.iso,o.kno⟩))∧True))∧zQx ⟨AV.tup [],[bC [Cl.ref 1 ((b++opB ⟨o.kind,o.image,o.x,o.y,o.mask,o.mx,o.my,o.opac,o.oper,o.mode,o.iso,o.kno⟩).length)],Bx.row 5 1 (u8s (b++opB ⟨o.kind,o.image,o.x,o.y,o.mask,o.mx,o.my,o.opac,o.oper,o.mode,o.iso,o.kno⟩))],false⟩))))))):=by kernel_rfl
theorem zJ2 (b:List Int) (o:Oq) (hb:b.length≤900000000):AnsG Try.prog 31 1 [AV.one (Cl.ptr 0 0),AV.agg [Cl.d (DV.int .i64 o.kind),Cl.d (DV.int .i64 o.image),Cl.d (DV.int .i64 o.x),Cl.d (DV.int .i64 o.y),Cl.d (DV.int .i64 o.mask),Cl.d (DV.int .i64 o.mx),Cl.d (DV.int .i64 o.my),Cl.d (DV.int .u16 o.opac),Cl.d (DV.int .i64 o.oper),Cl.d (DV.int .i64 o.mode),Cl.d (DV.bool o.iso),Cl.d (DV.bool o.kno)]] [Bx.cells [Cl.ref 1 b.length],Bx.row 5 1 (u8s b)] ⟨AV.tup [],[Bx.cells [Cl.ref 1 ((b++opB ⟨o.kind,o.image,o.x,o.y,o.mask,o.mx,o.my,o.opac,o.oper,o.mode,o.iso,o.kno⟩).length)],Bx.row 5 1 (u8s (b++opB ⟨o.kind,o.image,o.x,o.y,o.mask,o.mx,o.my,o.opac,o.oper,o.mode,o.iso,o.kno⟩))],false⟩:=
  zQR (Γ:=zGf) (zXA b o) zQq Try.func31 rfl (Nat.le_of_ble_eq_true rfl) rfl fun hwf hbx=>by
    refine Eq.mpr (zKv b o) ?_
    delta tU4 tU5 tU6 tU7 dJ cJ wK dS rJ aJ aPz bC iU
    simp only [true_and,and_true,RV.d.injEq,RV.agg.injEq,RV.tup.injEq,DV.bool.injEq,DV.int.injEq,DV.sl.injEq,List.cons.injEq,forall_const,Bool.not_false,Bool.not_true,Bool.not_eq_true',Bool.not_eq_false',decide_eq_true_eq,decide_eq_false_iff_not,Int.toNat_natCast]
    simp only [AV.wfL,AV.wf,Cl.wfs,DV.wf] at hwf
    obtain ⟨_,⟨_,_,_,_,_,_,_,h8,_⟩,_⟩:=hwf
    have h8:0≤o.opac∧o.opac≤65535:=h8
    have w0:IntKind.wrap .i64 o.opac=o.opac:=IntWalk.i64_in _ ⟨by omega,by omega⟩
    have fl:=zWg o
    simp only [zQZ,zJp,zK5,w0]
    have e:b++putL 1 [o.kind,o.image]++putL 4 [o.x,o.y]++putL 1 [o.mask]++putL 4 [o.mx,o.my]++putL 2 [o.opac]++putL 1 [o.oper,o.mode,zXe o]=b++opB o:=by simp [opB]
    refine ⟨zQh (b) 1 [o.kind,o.image] ⟨by omega,by omega⟩ (by simp only [List.length_append,zQI,zXb,List.length_cons,List.length_nil]; omega),zQh (b++putL 1 [o.kind,o.image]) 4 [o.x,o.y] ⟨by omega,by omega⟩ (by simp only [List.length_append,zQI,zXb,List.length_cons,List.length_nil]; omega),zQh (b++putL 1 [o.kind,o.image]++putL 4 [o.x,o.y]) 1 [o.mask] ⟨by omega,by omega⟩ (by simp only [List.length_append,zQI,zXb,List.length_cons,List.length_nil]; omega),zQh (b++putL 1 [o.kind,o.image]++putL 4 [o.x,o.y]++putL 1 [o.mask]) 4 [o.mx,o.my] ⟨by omega,by omega⟩ (by simp only [List.length_append,zQI,zXb,List.length_cons,List.length_nil]; omega),zQh (b++putL 1 [o.kind,o.image]++putL 4 [o.x,o.y]++putL 1 [o.mask]++putL 4 [o.mx,o.my]) 2 [o.opac] ⟨by omega,by omega⟩ (by simp only [List.length_append,zQI,zXb,List.length_cons,List.length_nil]; omega),fl,zQh (b++putL 1 [o.kind,o.image]++putL 4 [o.x,o.y]++putL 1 [o.mask]++putL 4 [o.mx,o.my]++putL 2 [o.opac]) 1 [o.oper,o.mode,zXe o] ⟨by omega,by omega⟩ (by simp only [List.length_append,zQI,zXb,List.length_cons,List.length_nil]; omega),⟨?_,?_⟩,trivial⟩
    · rw [← e]
    · rw [← e]
end Go.Proofs.Ytlnfgagmiogkgaa
namespace Go.Proofs.Ytlnfgagmiogkgaa
open Go.RowKit
set_option linter.unusedVariables false
set_option linter.unusedSimpArgs false
attribute [local irreducible] Ans AnsO AnsG AnsN AnsI
set_option maxRecDepth 4000
theorem zH2 (m:Im):(m.valid 0=0∨m.valid 0=8)↔m.formed=true:=by
  unfold Im.valid Im.formed
  cases zQz m.w m.h <;> cases m.inner <;> simp
  repeat' split
  all_goals omega
theorem all_take' {α:Type} {f:α→Bool} {l:List α} {k:Nat} (h:k < l.length):(l.take (k+1)).all f=((l.take k).all f && f l[k]):=by
  rw [List.take_succ_eq_append_getElem h,List.all_append]
  simp
theorem all_false' {α:Type} {f:α→Bool} {l:List α} {k:Nat} (h:k < l.length) (hf:f l[k]=false):l.all f=false:=by
  rw [List.all_eq_false]
  exact ⟨l[k],List.getElem_mem h,by rw [hf]; simp⟩
theorem zWJ {m:Im} (h:m.formed=true):19≤zZJ m∧zZJ m≤167772169∧1≤m.w*m.h∧m.w*m.h≤16777216:=by
  have h1:zQz m.w m.h=true:=by unfold Im.formed at h; exact (Bool.and_eq_true_iff.1 h).1
  have h2:1≤m.w*m.h∧m.w*m.h≤16777216:=by
    simp only [zQz,Bool.and_eq_true,decide_eq_true_eq] at h1
    have:0 < m.w*m.h:=Int.mul_pos (by omega) (by omega)
    omega
  unfold zZJ
  split <;> omega
theorem zVL {l:List Im} {k:Nat} (h:k < l.length):zQL (l.take (k+1))=zQL (l.take k)+zZJ l[k]:=by
  rw [List.take_succ_eq_append_getElem h,zKt]
  simp [zQL]
theorem zZr {l:List Im} (h:l.all Im.formed=true):0≤zQL l∧zQL l≤167772169*(l.length:Int):=by
  induction l with
  | nil=>simp [zQL]
  | cons m l ih=>
    simp only [List.all_cons,Bool.and_eq_true] at h
    have:=ih h.2
    have:=zWJ h.1
    simp only [zQL,List.length_cons]
    omega
def jJU:Gam where
 pure:=fun f xs=>
  if f=69 then (match xs with | [.agg [.int _ w,.int _ h,.bool so,.int _ c0,.int _ c1,.int _ c2,.int _ ca,.int _ cf,.int _ w0,.int _ h0,.int _ s0,.sl n0 xs0,.int _ w1,.int _ h1,.int _ s1,.sl n1 xs1,.int _ w2,.int _ h2,.int _ s2,.sl n2 xs2,.int _ w3,.int _ h3,.int _ s3,.sl n3 xs3,.int _ w4,.int _ h4,.int _ s4,.sl n4 xs4],.d (.int _ most)]=>some (rJ ((Im.valid ⟨w,h,so,⟨c0,c1,c2,ca,cf⟩,⟨w0,h0,s0,n0,xs0⟩,⟨w1,h1,s1,n1,xs1⟩,⟨w2,h2,s2,n2,xs2⟩,⟨w3,h3,s3,n3,xs3⟩,⟨w4,h4,s4,n4,xs4⟩⟩ most))) | _=>none) else
  if f=36 then (match xs with | [.d (.sl n xs)]=>some (RV.d (dQ (fitL 0 255 (ints (xs))))) | _=>none) else
  if f=37 then (match xs with | [.d (.sl n xs)]=>some (RV.d (dQ (fitL (-2147483648) 2147483647 (ints (xs))))) | _=>none) else
  if f=38 then (match xs with | [.d (.sl n xs)]=>some (RV.d (dQ (fitL 0 4294967295 (ints (xs))))) | _=>none) else
  if f=39 then (match xs with | [.agg [.int _ w,.int _ h,.bool so,.int _ c0,.int _ c1,.int _ c2,.int _ ca,.int _ cf,.int _ w0,.int _ h0,.int _ s0,.sl n0 xs0,.int _ w1,.int _ h1,.int _ s1,.sl n1 xs1,.int _ w2,.int _ h2,.int _ s2,.sl n2 xs2,.int _ w3,.int _ h3,.int _ s3,.sl n3 xs3,.int _ w4,.int _ h4,.int _ s4,.sl n4 xs4]]=>some (RV.d (dQ (Im.formed ⟨w,h,so,⟨c0,c1,c2,ca,cf⟩,⟨w0,h0,s0,n0,xs0⟩,⟨w1,h1,s1,n1,xs1⟩,⟨w2,h2,s2,n2,xs2⟩,⟨w3,h3,s3,n3,xs3⟩,⟨w4,h4,s4,n4,xs4⟩⟩))) | _=>none) else
  none
 modes:=fun f=>
  none
 proc:=fun f xs bs=>
  none
 iter:=fun f cs=>
  none
def zXx (m:Im):Ann:=Ann.leaf
theorem zJ3 (m:Im):vcg Try.prog jJU 12 (zQl Try.f39) (zXx m) kn0 (zQN [RV.agg [DV.int .i64 m.w,DV.int .i64 m.h,DV.bool m.so,DV.int .u16 m.c.a,DV.int .u16 m.c.b,DV.int .u16 m.c.c,DV.int .u16 m.c.al,DV.int .u16 m.c.f,DV.int .i64 m.p0.w,DV.int .i64 m.p0.h,DV.int .i64 m.p0.s,DV.sl m.p0.n m.p0.xs,DV.int .i64 m.p1.w,DV.int .i64 m.p1.h,DV.int .i64 m.p1.s,DV.sl m.p1.n m.p1.xs,DV.int .i64 m.p2.w,DV.int .i64 m.p2.h,DV.int .i64 m.p2.s,DV.sl m.p2.n m.p2.xs,DV.int .i64 m.p3.w,DV.int .i64 m.p3.h,DV.int .i64 m.p3.s,DV.sl m.p3.n m.p3.xs,DV.int .i64 m.p4.w,DV.int .i64 m.p4.h,DV.int .i64 m.p4.s,DV.sl m.p4.n m.p4.xs]]) (post Try.prog Try.f39.results.toList (·=RV.d (DV.bool (Im.formed m)))) =
  (let zz0:=((Im.valid m (0:Int))==(0:Int)); tU3 ((Ans Try.prog 69 [(imR (m)),RV.d (dK 0)] (rJ ((Im.valid m (0:Int)))))∧tU4 (((zz0=false→tU4 (RV.d (dQ ((Im.valid m (0:Int))==(8:Int)))=RV.d (dQ (Im.formed m))))∧(zz0=(!false)→tU2 (RV.d (dQ true)=RV.d (dQ (Im.formed m)))))))):=by kernel_rfl
theorem zJe (m:Im) (hu:m.isU):Ans Try.prog 39 [RV.agg [DV.int .i64 m.w,DV.int .i64 m.h,DV.bool m.so,DV.int .u16 m.c.a,DV.int .u16 m.c.b,DV.int .u16 m.c.c,DV.int .u16 m.c.al,DV.int .u16 m.c.f,DV.int .i64 m.p0.w,DV.int .i64 m.p0.h,DV.int .i64 m.p0.s,DV.sl m.p0.n m.p0.xs,DV.int .i64 m.p1.w,DV.int .i64 m.p1.h,DV.int .i64 m.p1.s,DV.sl m.p1.n m.p1.xs,DV.int .i64 m.p2.w,DV.int .i64 m.p2.h,DV.int .i64 m.p2.s,DV.sl m.p2.n m.p2.xs,DV.int .i64 m.p3.w,DV.int .i64 m.p3.h,DV.int .i64 m.p3.s,DV.sl m.p3.n m.p3.xs,DV.int .i64 m.p4.w,DV.int .i64 m.p4.h,DV.int .i64 m.p4.s,DV.sl m.p4.n m.p4.xs]] (RV.d (DV.bool (Im.formed m))):=
  zQf (Γ:=jJU) (zXx m) zQq Try.func39 rfl (Nat.le_of_ble_eq_true rfl) fun hwf=>by
    refine Eq.mpr (zJ3 m) ?_
    delta tU2 tU3 tU4 dK dQ rJ
    simp only [true_and,and_true,RV.d.injEq,RV.agg.injEq,RV.tup.injEq,DV.bool.injEq,DV.int.injEq,DV.sl.injEq,List.cons.injEq,forall_const,Bool.not_false,Bool.not_true,Bool.not_eq_true',Bool.not_eq_false',decide_eq_true_eq,decide_eq_false_iff_not,Int.toNat_natCast]
    have:=zGc m 0 hu
    have hf:=zH2 m
    refine ⟨this,fun q1=>?_,fun q1=>?_⟩
    · have q1:¬ m.valid 0=0:=by simpa using q1
      by_cases q2:m.valid 0=8
      · rw [hf.1 (.inr q2),q2]; rfl
      · cases q3:m.formed with
        | true=>have:=hf.2 q3; omega
        | false=>simp [q2]
    · have q1:m.valid 0=0:=by simpa using q1
      exact (hf.1 (.inl q1)).symm
def zXC (s:Scr):Ann:=let zz0:=(dS s.ims.length (ims s.ims)); let zz1:=(dS s.ops.length (ops s.ops)); (Ann.seq Ann.leaf (Ann.seq Ann.leaf (Ann.seq Ann.leaf (Ann.seq (Ann.seq Ann.leaf (Ann.loop ⟨Nat,fun k=>k≤s.ims.length∧(s.ims.take k).all Im.formed=true,fun k=>⟨[(1,AV.one (Cl.ptr 1 0)),(3,aJ (((zZm s (s.ims.take k))))),(69,AV.one (Cl.d zz0)),(70,aJ (((s.ims.length:Int)))),(71,aJ (((k:Int))))],[(1,bC [cJ (s.bits),cJ (s.c.a),cJ (s.c.b),cJ (s.c.c),cJ (s.c.d),cJ (s.tw),cJ (s.th),Cl.d (dS s.ord.length (is s.ord)),Cl.d zz0,Cl.d zz1])]⟩,fun k=>s.ims.length - k⟩ fun k=>Ann.leaf)) (Ann.seq (Ann.seq Ann.leaf (Ann.loop ⟨Nat,fun j=>j≤s.ops.length∧(s.ops.take j).all opOk=true,fun j=>⟨[(3,aJ (((zZm s s.ims)))),(93,AV.one (Cl.d zz1)),(94,aJ (((s.ops.length:Int)))),(95,aJ (((j:Int))))],[]⟩,fun j=>s.ops.length - j⟩ fun j=>Ann.leaf)) Ann.leaf)))))
theorem zKx (s:Scr):vcg Try.prog jJU 128 (zQl Try.f14) (zXC s) kn0 (zQN [RV.agg [DV.int .i64 s.bits,DV.int .i64 s.c.a,DV.int .i64 s.c.b,DV.int .i64 s.c.c,DV.int .i64 s.c.d,DV.int .i64 s.tw,DV.int .i64 s.th,DV.sl s.ord.length (is s.ord),DV.sl s.ims.length (ims s.ims),DV.sl s.ops.length (ops s.ops)]]) (post Try.prog Try.f14.results.toList (·=RV.d (DV.bool (zQO s)))) =
  (let zz0:=fun (k:Nat)=>(k≤s.ims.length∧(s.ims.take k).all Im.formed=true); let zz1:=(dS s.ims.length (ims s.ims)=dS s.ims.length (ims s.ims)); let zz2:=(dJ (s.ims.length:Int)=dJ (s.ims.length:Int)); let zz3:=[dJ s.bits,dJ s.c.a,dJ s.c.b,dJ s.c.c,dJ s.c.d,dJ s.tw,dJ s.th,dS s.ord.length (is s.ord),dS s.ims.length (ims s.ims),dS s.ops.length (ops s.ops)]; let zz4:=((zz3=zz3)∧True); let zz5:=fun (k':Nat)=>(k'≤s.ims.length∧(s.ims.take k').all Im.formed=true); let zz6:=fun (k:Nat)=>fun (k':Nat)=>(s.ims.length - k' < s.ims.length - k); let zz7:=fun (k:Nat)=>fun (k':Nat)=>(dJ (wK ((k:Int)+(1:Int)))=dJ (k':Int)); let zz8:=fun (j:Nat)=>(j≤s.ops.length∧(s.ops.take j).all opOk=true); let zz9:=(dS s.ops.length (ops s.ops)=dS s.ops.length (ops s.ops)); let zz10:=(dJ (s.ops.length:Int)=dJ (s.ops.length:Int)); tU5 ((Ans Try.prog 36 [RV.d (dS 1 ([dJ s.bits]))] (RV.d (dQ (fitL 0 255 (ints (([dJ s.bits])))))))∧tU2 ((((!(fitL 0 255 (ints (([dJ s.bits])))))=false→tU5 (tU8 ((Ans Try.prog 37 [RV.d (dS 4 ([dJ s.c.a,dJ s.c.b,dJ s.c.c,dJ s.c.d]))] (RV.d (dQ (fitL (-2147483648) 2147483647 (ints (([dJ s.c.a,dJ s.c.b,dJ s.c.c,dJ s.c.d])))))))∧tU3 ((((!(fitL (-2147483648) 2147483647 (ints (([dJ s.c.a,dJ s.c.b,dJ s.c.c,dJ s.c.d])))))=false→tU5 ((Ans Try.prog 38 [RV.d (dS 2 ([dJ s.tw,dJ s.th]))] (RV.d (dQ (fitL 0 4294967295 (ints (([dJ s.tw,dJ s.th])))))))∧tU3 ((((!(fitL 0 4294967295 (ints (([dJ s.tw,dJ s.th])))))=false→tU2 ((Ans Try.prog 38 [RV.d (dS s.ord.length (is s.ord))] (RV.d (dQ (fitL 0 4294967295 (ints ((is s.ord)))))))∧tU3 ((((!(fitL 0 4294967295 (ints ((is s.ord)))))=false→tU6 ((((decide ((s.ims.length:Int) > (64:Int)))=false→tU5 ((((decide ((s.ops.length:Int) > (4096:Int)))=true→True∧RV.d (dQ false)=RV.d (dQ (zQO s)))∧((decide ((s.ops.length:Int) > (4096:Int)))=false→tU7 (tU8 (((∃ k:Nat,(zz0 k)∧(((0=0)∧(dJ (wK ((wK ((34:Int)+(wK ((4:Int)*(s.ord.length:Int)))))+(wK ((24:Int)*(s.ops.length:Int)))))=dJ (zZm s (s.ims.take k)))∧zz1∧zz2∧(dJ 0=dJ (k:Int))∧True)∧zz4))∧∀ k:Nat,(zz0 k)→True∧(((decide ((k:Int) < (s.ims.length:Int)))=true→(0≤(k:Int)∧(k:Int) < (s.ims.length:Int)∧(k:Int).toNat*28 < (ims s.ims).length)∧((imQr (ims s.ims) ((k:Int).toNat*28)))∧tU3 ((Ans Try.prog 39 [imR (imQ (ims s.ims) ((k:Int).toNat*28))] (RV.d (dQ (Im.formed (imQ (ims s.ims) ((k:Int).toNat*28))))))∧True∧(((!(Im.formed (imQ (ims s.ims) ((k:Int).toNat*28))))=true→True∧RV.d (dQ false)=RV.d (dQ (zQO s)))∧((!(Im.formed (imQ (ims s.ims) ((k:Int).toNat*28))))=false→tU4 ((((!(bAt (ims s.ims) ((k:Int).toNat*28+1+1)))=true→tU6 (tU8 (∃ k':Nat,(zz5 k')∧(zz6 k k')∧(((0=0)∧(dJ (wK ((zZm s (s.ims.take k))+(wK ((9:Int)+(wK ((10:Int)*(wK ((nAt (ims s.ims) ((k:Int).toNat*28))*(nAt (ims s.ims) ((k:Int).toNat*28+1))))))))))=dJ (zZm s (s.ims.take k')))∧zz1∧zz2∧(zz7 k k')∧True)∧zz4))))∧((!(bAt (ims s.ims) ((k:Int).toNat*28+1+1)))=false→tU8 (∃ k':Nat,(zz5 k')∧(zz6 k k')∧(((0=0)∧(dJ (wK ((zZm s (s.ims.take k))+(wK ((9:Int)+(wK ((10:Int)*(1:Int)))))))=dJ (zZm s (s.ims.take k')))∧zz1∧zz2∧(zz7 k k')∧True)∧zz4)))))))))∧((decide ((k:Int) < (s.ims.length:Int)))=false→tU4 (((∃ j:Nat,(zz8 j)∧(((dJ (zZm s (s.ims.take k))=dJ (zZm s s.ims))∧zz9∧zz10∧(dJ 0=dJ (j:Int))∧True)∧(True)))∧∀ j:Nat,(zz8 j)→True∧(((decide ((j:Int) < (s.ops.length:Int)))=true→(0≤(j:Int)∧(j:Int) < (s.ops.length:Int)∧(j:Int).toNat*12 < (ops s.ops).length)∧((oqQr (ops s.ops) ((j:Int).toNat*12)))∧tU5 (tU8 ((Ans Try.prog 36 [RV.d (dS 5 ([dJ (nAt (ops s.ops) ((j:Int).toNat*12)),dJ (nAt (ops s.ops) ((j:Int).toNat*12+1)),dJ (nAt (ops s.ops) ((j:Int).toNat*12+1+1+1+1)),dJ (nAt (ops s.ops) ((j:Int).toNat*12+1+1+1+1+1+1+1+1)),dJ (nAt (ops s.ops) ((j:Int).toNat*12+1+1+1+1+1+1+1+1+1))]))] (RV.d (dQ (fitL 0 255 (ints (([dJ (nAt (ops s.ops) ((j:Int).toNat*12)),dJ (nAt (ops s.ops) ((j:Int).toNat*12+1)),dJ (nAt (ops s.ops) ((j:Int).toNat*12+1+1+1+1)),dJ (nAt (ops s.ops) ((j:Int).toNat*12+1+1+1+1+1+1+1+1)),dJ (nAt (ops s.ops) ((j:Int).toNat*12+1+1+1+1+1+1+1+1+1))])))))))∧tU2 ((((!(fitL 0 255 (ints (([dJ (nAt (ops s.ops) ((j:Int).toNat*12)),dJ (nAt (ops s.ops) ((j:Int).toNat*12+1)),dJ (nAt (ops s.ops) ((j:Int).toNat*12+1+1+1+1)),dJ (nAt (ops s.ops) ((j:Int).toNat*12+1+1+1+1+1+1+1+1)),dJ (nAt (ops s.ops) ((j:Int).toNat*12+1+1+1+1+1+1+1+1+1))])))))=false→True∧tU8 ((Ans Try.prog 37 [RV.d (dS 4 ([dJ (nAt (ops s.ops) ((j:Int).toNat*12+1+1)),dJ (nAt (ops s.ops) ((j:Int).toNat*12+1+1+1)),dJ (nAt (ops s.ops) ((j:Int).toNat*12+1+1+1+1+1)),dJ (nAt (ops s.ops) ((j:Int).toNat*12+1+1+1+1+1+1))]))] (RV.d (dQ (fitL (-2147483648) 2147483647 (ints (([dJ (nAt (ops s.ops) ((j:Int).toNat*12+1+1)),dJ (nAt (ops s.ops) ((j:Int).toNat*12+1+1+1)),dJ (nAt (ops s.ops) ((j:Int).toNat*12+1+1+1+1+1)),dJ (nAt (ops s.ops) ((j:Int).toNat*12+1+1+1+1+1+1))])))))))∧tU2 ((((!(fitL (-2147483648) 2147483647 (ints (([dJ (nAt (ops s.ops) ((j:Int).toNat*12+1+1)),dJ (nAt (ops s.ops) ((j:Int).toNat*12+1+1+1)),dJ (nAt (ops s.ops) ((j:Int).toNat*12+1+1+1+1+1)),dJ (nAt (ops s.ops) ((j:Int).toNat*12+1+1+1+1+1+1))])))))=true→True∧RV.d (dQ false)=RV.d (dQ (zQO s)))∧((!(fitL (-2147483648) 2147483647 (ints (([dJ (nAt (ops s.ops) ((j:Int).toNat*12+1+1)),dJ (nAt (ops s.ops) ((j:Int).toNat*12+1+1+1)),dJ (nAt (ops s.ops) ((j:Int).toNat*12+1+1+1+1+1)),dJ (nAt (ops s.ops) ((j:Int).toNat*12+1+1+1+1+1+1))])))))=false→tU2 (∃ j':Nat,(j'≤s.ops.length∧(s.ops.take j').all opOk=true)∧(s.ops.length - j' < s.ops.length - j)∧(((dJ (zZm s s.ims)=dJ (zZm s s.ims))∧zz9∧zz10∧(dJ (wK ((j:Int)+(1:Int)))=dJ (j':Int))∧True)∧(True))))))))∧((!(fitL 0 255 (ints (([dJ (nAt (ops s.ops) ((j:Int).toNat*12)),dJ (nAt (ops s.ops) ((j:Int).toNat*12+1)),dJ (nAt (ops s.ops) ((j:Int).toNat*12+1+1+1+1)),dJ (nAt (ops s.ops) ((j:Int).toNat*12+1+1+1+1+1+1+1+1)),dJ (nAt (ops s.ops) ((j:Int).toNat*12+1+1+1+1+1+1+1+1+1))])))))=(!false)→tU2 (RV.d (dQ false)=RV.d (dQ (zQO s)))))))))∧((decide ((j:Int) < (s.ops.length:Int)))=false→tU3 (RV.d (dQ (decide ((zZm s s.ims)≤(67108864:Int))))=RV.d (dQ (zQO s))))))))))))))))∧((decide ((s.ims.length:Int) > (64:Int)))=(!false)→tU2 (RV.d (dQ false)=RV.d (dQ (zQO s)))))))∧((!(fitL 0 4294967295 (ints ((is s.ord)))))=(!false)→tU4 (RV.d (dQ false)=RV.d (dQ (zQO s))))))))∧((!(fitL 0 4294967295 (ints (([dJ s.tw,dJ s.th])))))=(!false)→tU6 (RV.d (dQ false)=RV.d (dQ (zQO s))))))))∧((!(fitL (-2147483648) 2147483647 (ints (([dJ s.c.a,dJ s.c.b,dJ s.c.c,dJ s.c.d])))))=(!false)→tU8 (RV.d (dQ false)=RV.d (dQ (zQO s)))))))))∧((!(fitL 0 255 (ints (([dJ s.bits])))))=(!false)→tU2 (tU8 (RV.d (dQ false)=RV.d (dQ (zQO s))))))))):=by kernel_rfl
theorem zJ5 (s:Scr) (hM:∀ m∈s.ims,m.isU) (hos:s.ord.length≤17592186044416):Ans Try.prog 14 [RV.agg [DV.int .i64 s.bits,DV.int .i64 s.c.a,DV.int .i64 s.c.b,DV.int .i64 s.c.c,DV.int .i64 s.c.d,DV.int .i64 s.tw,DV.int .i64 s.th,DV.sl s.ord.length (is s.ord),DV.sl s.ims.length (ims s.ims),DV.sl s.ops.length (ops s.ops)]] (RV.d (DV.bool (zQO s))):=
  zQf (Γ:=jJU) (zXC s) zQq Try.func14 rfl (Nat.le_of_ble_eq_true rfl) fun hwf=>by
    refine Eq.mpr (zKx s) ?_
    delta tU2 tU3 tU4 tU5 tU6 tU7 tU8 dJ dQ wK dS
    simp only [true_and,and_true,RV.d.injEq,RV.agg.injEq,RV.tup.injEq,DV.bool.injEq,DV.int.injEq,DV.sl.injEq,List.cons.injEq,forall_const,Bool.not_false,Bool.not_true,Bool.not_eq_true',Bool.not_eq_false',decide_eq_true_eq,decide_eq_false_iff_not,Int.toNat_natCast,imQ,imQr,oqQr]
    have a1:=zYU [s.bits]
    have a2:=zYg [s.c.a,s.c.b,s.c.c,s.c.d]
    have a3:=zXO [s.tw,s.th]
    have a4:=zXO s.ord
    clear hwf
    have fal:zXI s=false→false=zQO s:=fun h=>by simp [zQO,h]
    simp only [zZo] at a4 ⊢
    refine ⟨a1,fun h1=>⟨a2,fun h2=>⟨a3,fun h3=>⟨a4,fun h4=>⟨fun h5=>⟨fun h6=>?_,fun h6=>?_⟩,fun h5=>?_⟩,fun h4=>?_⟩,fun h3=>?_⟩,fun h2=>?_⟩,fun h1=>?_⟩
    · exact fal (by simp [zXI]; omega)
    · have g1:fitL 0 255 [s.bits]=true:=h1
      have g2:fitL (-2147483648) 2147483647 [s.c.a,s.c.b,s.c.c,s.c.d]=true:=h2
      have g3:fitL 0 4294967295 [s.tw,s.th]=true:=h3
      have hd:zXI s=true:=by simp only [zXI,g1,g2,g3,h4,Bool.and_true,Bool.true_and,Bool.and_eq_true,decide_eq_true_eq]; omega
      have w0:∀ n:Int,-1000000000000000≤n→n≤1000000000000000→IntKind.wrap .i64 n=n:=fun n a b=>IntWalk.i64_in _ ⟨by omega,by omega⟩
      have hs0:IntKind.wrap .i64 (IntKind.wrap .i64 (34+IntKind.wrap .i64 (4*(s.ord.length:Int)))+IntKind.wrap .i64 (24*(s.ops.length:Int)))=zZm s []:=by
        rw [w0 (4*(s.ord.length:Int)) (by omega) (by omega),w0 (34+4*(s.ord.length:Int)) (by omega) (by omega),w0 (24*(s.ops.length:Int)) (by omega) (by omega),w0 _ (by omega) (by omega)]
        simp [zZm,zQL]
      refine ⟨⟨0,⟨Nat.zero_le _,by simp⟩,by rw [hs0]; rfl,rfl⟩,fun k hk=>⟨fun hlt=>?_,fun hge=>?_⟩⟩
      · obtain ⟨k1,k2⟩:=hk
        have hk:k < s.ims.length:=by omega
        have q1:=zVX hk
        have q2:=zVY hk
        have w1:IntKind.wrap .i64 ((k:Int)+1)=((k+1:Nat):Int):=by rw [w0 _ (by omega) (by omega)]; omega
        have wf:=zJe s.ims[k] (hM _ (List.getElem_mem hk))
        simp only [q2,w1]
        refine ⟨⟨by omega,by omega,by rw [zZk]; omega⟩,q1,wf,fun h7=>?_,fun h7=>?_⟩
        · have h7:s.ims[k].formed=false:=h7
          simp [zQO,all_false' hk h7]
        · have h7:s.ims[k].formed=true:=h7
          have hz:=zWJ h7
          have hzl:=zZr k2
          have hl:(s.ims.take k).length≤64:=by rw [List.length_take]; omega
          have hz2:zZm s (s.ims.take (k+1))=zZm s (s.ims.take k)+zZJ s.ims[k]:=by simp only [zZm,zVL hk]; omega
          have hz3:0≤zZm s (s.ims.take k)∧zZm s (s.ims.take k)≤100000000000000:=by simp only [zZm]; omega
          have hin:k+1≤s.ims.length∧(s.ims.take (k+1)).all Im.formed=true:=⟨by omega,by rw [all_take' hk,k2,h7]; rfl⟩
          refine ⟨fun h8=>⟨k+1,hin,by omega,?_,rfl⟩,fun h8=>⟨k+1,hin,by omega,?_,rfl⟩⟩
          · have hsz:zZJ s.ims[k]=9+10*(s.ims[k].w*s.ims[k].h):=by unfold zZJ; rw [if_neg (by rw [h8]; simp)]
            rw [hz2,hsz]
            generalize s.ims[k].w*s.ims[k].h=a at *
            rw [w0 a (by omega) (by omega),w0 (10*a) (by omega) (by omega),w0 (9+10*a) (by omega) (by omega),w0 _ (by omega) (by omega)]
          · have hsz:zZJ s.ims[k]=19:=by unfold zZJ; rw [if_pos h8]
            rw [hz2,hsz]
            rw [w0 (10*1) (by omega) (by omega),w0 (9+10*1) (by omega) (by omega),w0 _ (by omega) (by omega)]
            omega
      · obtain ⟨k1,k2⟩:=hk
        have:k=s.ims.length:=by omega
        subst this
        rw [List.take_length] at k2
        refine ⟨⟨0,⟨Nat.zero_le _,by simp⟩,by rw [List.take_length],rfl⟩,fun j hj=>⟨fun hlt=>?_,fun hge=>?_⟩⟩
        · obtain ⟨j1,j2⟩:=hj
          have hj:j < s.ops.length:=by omega
          have q1:=zVT hj
          have q2:=zUc hj
          have w1:IntKind.wrap .i64 ((j:Int)+1)=((j+1:Nat):Int):=by rw [w0 _ (by omega) (by omega)]; omega
          have b1:=zYU [s.ops[j].kind,s.ops[j].image,s.ops[j].mask,s.ops[j].oper,s.ops[j].mode]
          have b2:=zYg [s.ops[j].x,s.ops[j].y,s.ops[j].mx,s.ops[j].my]
          simp only [q2,w1]
          have bad:opOk s.ops[j]=false→false=zQO s:=fun h=>by simp [zQO,all_false' hj h]
          refine ⟨⟨by omega,by omega,by rw [zQY]; omega⟩,q1,b1,fun h7=>⟨b2,fun h8=>bad ?_,fun h8=>⟨j+1,⟨by omega,?_⟩,by omega,rfl⟩⟩,fun h7=>bad ?_⟩
          · have h8:fitL (-2147483648) 2147483647 [s.ops[j].x,s.ops[j].y,s.ops[j].mx,s.ops[j].my]=false:=h8
            simp [opOk,h8]
          · have h7:fitL 0 255 [s.ops[j].kind,s.ops[j].image,s.ops[j].mask,s.ops[j].oper,s.ops[j].mode]=true:=h7
            have h8:fitL (-2147483648) 2147483647 [s.ops[j].x,s.ops[j].y,s.ops[j].mx,s.ops[j].my]=true:=h8
            rw [all_take' hj,j2]
            simp [opOk,h7,h8]
          · have h7:fitL 0 255 [s.ops[j].kind,s.ops[j].image,s.ops[j].mask,s.ops[j].oper,s.ops[j].mode]=false:=h7
            simp [opOk,h7]
        · obtain ⟨j1,j2⟩:=hj
          have:j=s.ops.length:=by omega
          subst this
          rw [List.take_length] at j2
          simp [zQO,hd,k2,j2]
    · exact fal (by simp [zXI]; omega)
    · exact fal (by simp [zXI,h4])
    · have h3:fitL 0 4294967295 [s.tw,s.th]=false:=h3
      exact fal (by simp [zXI,h3])
    · have h2:fitL (-2147483648) 2147483647 [s.c.a,s.c.b,s.c.c,s.c.d]=false:=h2
      exact fal (by simp [zXI,h2])
    · have h1:fitL 0 255 [s.bits]=false:=h1
      exact fal (by simp [zXI,h1])
end Go.Proofs.Ytlnfgagmiogkgaa
namespace Go.Proofs.Ytlnfgagmiogkgaa
open Go.RowKit
set_option linter.unusedVariables false
set_option linter.unusedSimpArgs false
attribute [local irreducible] Ans AnsO AnsG AnsN AnsI
set_option maxRecDepth 4000
def zZI (s:Scr) (l:List Im):Int:=34+4*min (s.ord.length:Int) 67108864+24*(s.ops.length:Int)+zQL l
def lenR (s:Scr):Int:=if zZI s s.ims≤67108864 then zZI s s.ims else -1
theorem jXn {m:Im} (h:m.formed=true):1≤m.w∧m.w≤16777216:=by
  have h1:zQz m.w m.h=true:=by unfold Im.formed at h; exact (Bool.and_eq_true_iff.1 h).1
  simp only [zQz,Bool.and_eq_true,decide_eq_true_eq] at h1
  have:m.w*1≤m.w*m.h:=Int.mul_le_mul_of_nonneg_left (by omega) (by omega)
  omega
theorem zVM {l:List Im} {k:Nat} (h:l.all Im.formed=true):zQL (l.take k)≤zQL l:=by
  have h1:=zKt (l.take k) (l.drop k)
  rw [List.take_append_drop] at h1
  have h2:(l.drop k).all Im.formed=true:=by
    rw [List.all_eq_true] at h ⊢
    exact fun m hm=>h m (List.mem_of_mem_drop hm)
  have:=zZr h2
  omega
def jJT:Gam where
 pure:=fun f xs=>
  if f=42 then (match xs with | [.agg [.int _ w,.int _ h,.bool so,.int _ c0,.int _ c1,.int _ c2,.int _ ca,.int _ cf,.int _ w0,.int _ h0,.int _ s0,.sl n0 xs0,.int _ w1,.int _ h1,.int _ s1,.sl n1 xs1,.int _ w2,.int _ h2,.int _ s2,.sl n2 xs2,.int _ w3,.int _ h3,.int _ s3,.sl n3 xs3,.int _ w4,.int _ h4,.int _ s4,.sl n4 xs4]]=>some (RV.d (dQ (Im.formed ⟨w,h,so,⟨c0,c1,c2,ca,cf⟩,⟨w0,h0,s0,n0,xs0⟩,⟨w1,h1,s1,n1,xs1⟩,⟨w2,h2,s2,n2,xs2⟩,⟨w3,h3,s3,n3,xs3⟩,⟨w4,h4,s4,n4,xs4⟩⟩))) | _=>none) else
  if f=40 then (match xs with | [.d (.int _ v),.d (.int _ size),.d (.bool sg)]=>some (RV.d (dQ (fitR size sg v))) | _=>none) else
  if f=41 then (match xs with | [.d (.int _ size),.d (.bool sg),.d (.sl n xs)]=>some (RV.d (dQ ((ints (xs)).all (fitR size sg)))) | _=>none) else
  if f=43 then (match xs with | [.agg [.int _ bits,.int _ cx0,.int _ cy0,.int _ cx1,.int _ cy1,.int _ tw,.int _ th,.sl on oxs,.sl mn mxs,.sl pn pxs]]=>some (rJ ((lenR (⟨bits,⟨cx0,cy0,cx1,cy1⟩,tw,th,ints oxs,zQv mxs,zQp pxs⟩:Scr)))) | _=>none) else
  none
 modes:=fun f=>
  none
 proc:=fun f xs bs=>
  none
 iter:=fun f cs=>
  none
def zKl (s:Scr):Ann:=(Ann.seq Ann.leaf (Ann.seq Ann.leaf (Ann.seq (Ann.seq Ann.leaf (Ann.loop ⟨Nat,fun k=>k≤s.ims.length∧zQL (s.ims.take k)≤67108864,fun k=>⟨[(1,AV.one (Cl.ptr 1 0)),(3,aJ (((zZI s (s.ims.take k))))),(4,aJ (((k:Int))))],[(1,bC [cJ (s.bits),cJ (s.c.a),cJ (s.c.b),cJ (s.c.c),cJ (s.c.d),cJ (s.tw),cJ (s.th),Cl.d (dS s.ord.length (is s.ord)),Cl.d (dS s.ims.length (ims s.ims)),Cl.d (dS s.ops.length (ops s.ops))])]⟩,fun k=>s.ims.length - k⟩ fun k=>Ann.leaf)) Ann.leaf)))
theorem zHN (s:Scr):vcg Try.prog jJT 48 (zQl Try.f43) (zKl s) kn0 (zQN [RV.agg [DV.int .i64 s.bits,DV.int .i64 s.c.a,DV.int .i64 s.c.b,DV.int .i64 s.c.c,DV.int .i64 s.c.d,DV.int .i64 s.tw,DV.int .i64 s.th,DV.sl s.ord.length (is s.ord),DV.sl s.ims.length (ims s.ims),DV.sl s.ops.length (ops s.ops)]]) (post Try.prog Try.f43.results.toList (·=RV.d (DV.int .i64 (lenR s)))) =
  (let zz0:=fun (k:Nat)=>(k≤s.ims.length∧zQL (s.ims.take k)≤67108864); let zz1:=[dJ s.bits,dJ s.c.a,dJ s.c.b,dJ s.c.c,dJ s.c.d,dJ s.tw,dJ s.th,dS s.ord.length (is s.ord),dS s.ims.length (ims s.ims),dS s.ops.length (ops s.ops)]; let zz2:=((zz1=zz1)∧True); let zz3:=fun (k:Nat)=>(wK ((zZI s (s.ims.take k))+(19:Int))); let zz4:=fun (k':Nat)=>(k'≤s.ims.length∧zQL (s.ims.take k')≤67108864); let zz5:=fun (k:Nat)=>fun (k':Nat)=>(s.ims.length - k' < s.ims.length - k); let zz6:=fun (k:Nat)=>fun (k':Nat)=>(dJ (wK ((k:Int)+(1:Int)))=dJ (k':Int)); tU7 (tU8 (((∃ k:Nat,(zz0 k)∧(((0=0)∧(dJ (wK ((wK ((34:Int)+(wK ((4:Int)*(min (s.ord.length:Int) (67108864:Int))))))+(wK ((24:Int)*(s.ops.length:Int)))))=dJ (zZI s (s.ims.take k)))∧(dJ 0=dJ (k:Int))∧True)∧zz2))∧∀ k:Nat,(zz0 k)→tU5 ((((decide ((k:Int) < (s.ims.length:Int)))=true→tU3 ((0≤(k:Int)∧(k:Int) < (s.ims.length:Int)∧(k:Int).toNat*28 < (ims s.ims).length)∧((imQr (ims s.ims) ((k:Int).toNat*28)))∧tU8 ((((!(bAt (ims s.ims) ((k:Int).toNat*28+1+1)))=true→tU4 (tU8 ((((decide ((wK ((zz3 k)+(wK ((wK ((wK ((10:Int)*(nAt (ims s.ims) ((k:Int).toNat*28))))*(nAt (ims s.ims) ((k:Int).toNat*28+1)))) - (10:Int))))) > (67108864:Int)))=true→True∧rJ ((-1:Int))=rJ ((lenR s)))∧((decide ((wK ((zz3 k)+(wK ((wK ((wK ((10:Int)*(nAt (ims s.ims) ((k:Int).toNat*28))))*(nAt (ims s.ims) ((k:Int).toNat*28+1)))) - (10:Int))))) > (67108864:Int)))=false→tU3 (∃ k':Nat,(zz4 k')∧(zz5 k k')∧(((0=0)∧(dJ (wK ((zz3 k)+(wK ((wK ((wK ((10:Int)*(nAt (ims s.ims) ((k:Int).toNat*28))))*(nAt (ims s.ims) ((k:Int).toNat*28+1)))) - (10:Int)))))=dJ (zZI s (s.ims.take k')))∧(zz6 k k')∧True)∧zz2)))))))∧((!(bAt (ims s.ims) ((k:Int).toNat*28+1+1)))=false→tU2 ((((decide ((zz3 k) > (67108864:Int)))=true→True∧rJ ((-1:Int))=rJ ((lenR s)))∧((decide ((zz3 k) > (67108864:Int)))=false→tU3 (∃ k':Nat,(zz4 k')∧(zz5 k k')∧(((0=0)∧(dJ (zz3 k)=dJ (zZI s (s.ims.take k')))∧(zz6 k k')∧True)∧zz2))))))))))∧((decide ((k:Int) < (s.ims.length:Int)))=false→tU2 ((((decide ((zZI s (s.ims.take k)) > (67108864:Int)))=true→True∧rJ ((-1:Int))=rJ ((lenR s)))∧((decide ((zZI s (s.ims.take k)) > (67108864:Int)))=false→tU2 (rJ ((zZI s (s.ims.take k)))=rJ ((lenR s))))))))))))):=by kernel_rfl
theorem zGj (s:Scr) (hF:s.ims.all Im.formed=true) (ho:s.ops.length≤4096) (hil0:s.ims.length≤9223372036854775807):Ans Try.prog 43 [RV.agg [DV.int .i64 s.bits,DV.int .i64 s.c.a,DV.int .i64 s.c.b,DV.int .i64 s.c.c,DV.int .i64 s.c.d,DV.int .i64 s.tw,DV.int .i64 s.th,DV.sl s.ord.length (is s.ord),DV.sl s.ims.length (ims s.ims),DV.sl s.ops.length (ops s.ops)]] (RV.d (DV.int .i64 (lenR s))):=
  zQf (Γ:=jJT) (zKl s) zQq Try.func43 rfl (Nat.le_of_ble_eq_true rfl) fun hwf=>by
    refine Eq.mpr (zHN s) ?_
    delta tU2 tU3 tU4 tU5 tU7 tU8 dJ wK dS rJ
    simp only [true_and,and_true,RV.d.injEq,RV.agg.injEq,RV.tup.injEq,DV.bool.injEq,DV.int.injEq,DV.sl.injEq,List.cons.injEq,forall_const,Bool.not_false,Bool.not_true,Bool.not_eq_true',Bool.not_eq_false',decide_eq_true_eq,decide_eq_false_iff_not,Int.toNat_natCast,imQr]
    clear hwf
    have w0:∀ n:Int,-1000000000000000≤n→n≤1000000000000000→IntKind.wrap .i64 n=n:=fun n a b=>IntWalk.i64_in _ ⟨by omega,by omega⟩
    have hmn:0≤min (s.ord.length:Int) 67108864∧min (s.ord.length:Int) 67108864≤67108864:=by omega
    have hzl:=zZr hF
    have hdr:=fun k=>@zVM s.ims k hF
    have hs0:IntKind.wrap .i64 (IntKind.wrap .i64 (34+IntKind.wrap .i64 (4*min (s.ord.length:Int) 67108864))+IntKind.wrap .i64 (24*(s.ops.length:Int)))=zZI s []:=by
      unfold zZI
      generalize min (s.ord.length:Int) 67108864=M at *
      rw [w0 (4*M) (by omega) (by omega),w0 (34+4*M) (by omega) (by omega),w0 (24*(s.ops.length:Int)) (by omega) (by omega),w0 _ (by omega) (by omega)]
      simp [zQL]
    have hbad:∀ k,67108864 < zZI s (s.ims.take k) → -1=lenR s:=fun k h=>by
      have:=hdr k
      unfold lenR
      rw [if_neg (by unfold zZI at h ⊢; omega)]
    refine ⟨⟨0,⟨Nat.zero_le _,by simp [zQL]⟩,by rw [hs0]; rfl,rfl⟩,fun k hk=>⟨fun hlt=>?_,fun hge=>?_⟩⟩
    · obtain ⟨hk1,hk2⟩:=hk
      have hk:k < s.ims.length:=by omega
      have q1:=zVX hk
      have q2:=zVY hk
      have hil:(k:Int) < 9223372036854775807:=by omega
      have w1:IntKind.wrap .i64 ((k:Int)+1)=((k+1:Nat):Int):=by rw [IntWalk.i64_in _ ⟨by omega,by omega⟩]; omega
      simp only [q2,w1]
      have hm:s.ims[k].formed=true:=by rw [List.all_eq_true] at hF; exact hF _ (List.getElem_mem hk)
      have hz:=zWJ hm
      have hw:=jXn hm
      have hz2:zZI s (s.ims.take (k+1))=zZI s (s.ims.take k)+zZJ s.ims[k]:=by simp only [zZI,zVL hk]; omega
      have hz3:0≤zZI s (s.ims.take k)∧zZI s (s.ims.take k)≤400000000000:=by
        have h1:(s.ims.take k).all Im.formed=true:=by
          rw [List.all_eq_true] at hF ⊢
          exact fun m hm=>hF m (List.mem_of_mem_take hm)
        have:=zZr h1
        simp only [zZI]; omega
      have e1:IntKind.wrap .i64 (zZI s (s.ims.take k)+19)=zZI s (s.ims.take k)+19:=w0 _ (by omega) (by omega)
      have e2:IntKind.wrap .i64 (IntKind.wrap .i64 (zZI s (s.ims.take k)+19)+IntKind.wrap .i64 (IntKind.wrap .i64 (IntKind.wrap .i64 (10*s.ims[k].w)*s.ims[k].h) - 10))=zZI s (s.ims.take k)+9+10*(s.ims[k].w*s.ims[k].h):=by
        rw [e1,w0 (10*s.ims[k].w) (by omega) (by omega),Int.mul_assoc]
        generalize s.ims[k].w*s.ims[k].h=a at *
        rw [w0 (10*a) (by omega) (by omega),w0 (10*a - 10) (by omega) (by omega),w0 _ (by omega) (by omega)]
        omega
      refine ⟨⟨by omega,by omega,by rw [zZk]; omega⟩,q1,fun h8=>?_,fun h8=>?_⟩
      · have hsz:zZJ s.ims[k]=9+10*(s.ims[k].w*s.ims[k].h):=by unfold zZJ; rw [if_neg (by rw [h8]; simp)]
        have e3:zZI s (s.ims.take k)+9+10*(s.ims[k].w*s.ims[k].h)=zZI s (s.ims.take (k+1)):=by rw [hz2,hsz]; omega
        rw [e2,e3]
        exact ⟨fun h9=>hbad _ (by omega),fun h9=>⟨k+1,⟨by omega,by unfold zZI at h9 hz3; omega⟩,by omega,rfl,rfl⟩⟩
      · have hsz:zZJ s.ims[k]=19:=by unfold zZJ; rw [if_pos h8]
        have e3:zZI s (s.ims.take k)+19=zZI s (s.ims.take (k+1)):=by rw [hz2,hsz]
        rw [e1,e3]
        exact ⟨fun h9=>hbad _ (by omega),fun h9=>⟨k+1,⟨by omega,by unfold zZI at h9 hz3; omega⟩,by omega,rfl,rfl⟩⟩
    · have:k=s.ims.length:=by omega
      subst this
      rw [List.take_length]
      refine ⟨fun h=>hbad s.ims.length (by rw [List.take_length]; exact h),fun h=>?_⟩
      unfold lenR
      rw [if_pos (by omega)]
theorem zHX (m:Im):Ans Try.prog 42 [imR m] (RV.d (DV.bool m.formed)):=zQE (m.w) (m.h) (m.so) (m.c.a) (m.c.b) (m.c.c) (m.c.al) (m.c.f) (m.p0.w) (m.p0.h) (m.p0.s) (m.p0.n) (m.p0.xs) (m.p1.w) (m.p1.h) (m.p1.s) (m.p1.n) (m.p1.xs) (m.p2.w) (m.p2.h) (m.p2.s) (m.p2.n) (m.p2.xs) (m.p3.w) (m.p3.h) (m.p3.s) (m.p3.n) (m.p3.xs) (m.p4.w) (m.p4.h) (m.p4.s) (m.p4.n) (m.p4.xs)
def zYv (s:Scr):Ann:=let zz0:=[(1,bC [cJ (s.bits),cJ (s.c.a),cJ (s.c.b),cJ (s.c.c),cJ (s.c.d),cJ (s.tw),cJ (s.th),Cl.d (dS s.ord.length (is s.ord)),Cl.d (dS s.ims.length (ims s.ims)),Cl.d (dS s.ops.length (ops s.ops))])]; (Ann.seq Ann.leaf (Ann.seq Ann.leaf (Ann.seq Ann.leaf (Ann.seq (Ann.seq Ann.leaf (Ann.loop ⟨Nat,fun k=>k≤s.ims.length∧(s.ims.take k).all Im.formed=true,fun k=>⟨[(1,AV.one (Cl.ptr 1 0)),(4,aJ (((k:Int))))],zz0⟩,fun k=>s.ims.length - k⟩ fun k=>Ann.leaf)) (Ann.seq (Ann.seq Ann.leaf (Ann.loop ⟨Nat,fun j=>j≤s.ops.length∧(s.ops.take j).all opOk=true,fun j=>⟨[(1,AV.one (Cl.ptr 1 0)),(5,aJ (((j:Int))))],zz0⟩,fun j=>s.ops.length - j⟩ fun j=>Ann.leaf)) Ann.leaf)))))
theorem zWs (s:Scr):vcg Try.prog jJT 114 (zQl Try.f17) (zYv s) kn0 (zQN [RV.agg [DV.int .i64 s.bits,DV.int .i64 s.c.a,DV.int .i64 s.c.b,DV.int .i64 s.c.c,DV.int .i64 s.c.d,DV.int .i64 s.tw,DV.int .i64 s.th,DV.sl s.ord.length (is s.ord),DV.sl s.ims.length (ims s.ims),DV.sl s.ops.length (ops s.ops)]]) (post Try.prog Try.f17.results.toList (·=RV.d (DV.bool (zQO s)))) =
  (let zz0:=fun (k:Nat)=>(k≤s.ims.length∧(s.ims.take k).all Im.formed=true); let zz1:=[dJ s.bits,dJ s.c.a,dJ s.c.b,dJ s.c.c,dJ s.c.d,dJ s.tw,dJ s.th,dS s.ord.length (is s.ord),dS s.ims.length (ims s.ims),dS s.ops.length (ops s.ops)]; let zz2:=((zz1=zz1)∧True); let zz3:=fun (j:Nat)=>(j≤s.ops.length∧(s.ops.take j).all opOk=true); tU8 ((Ans Try.prog 40 [rJ (s.bits),rJ (1),RV.d (dQ false)] (RV.d (dQ (fitR (1:Int) false s.bits))))∧tU2 ((((!(fitR (1:Int) false s.bits))=false→True∧tU8 ((Ans Try.prog 41 [rJ (4),RV.d (dQ true),RV.d (dS 4 ([dJ s.c.a,dJ s.c.b,dJ s.c.c,dJ s.c.d]))] (RV.d (dQ ((ints (([dJ s.c.a,dJ s.c.b,dJ s.c.c,dJ s.c.d]))).all (fitR (4:Int) true)))))∧tU3 ((((!((ints (([dJ s.c.a,dJ s.c.b,dJ s.c.c,dJ s.c.d]))).all (fitR (4:Int) true)))=false→tU5 ((Ans Try.prog 41 [rJ (4),RV.d (dQ false),RV.d (dS 2 ([dJ s.tw,dJ s.th]))] (RV.d (dQ ((ints (([dJ s.tw,dJ s.th]))).all (fitR (4:Int) false)))))∧tU3 ((((!((ints (([dJ s.tw,dJ s.th]))).all (fitR (4:Int) false)))=false→tU6 ((((decide ((s.ord.length:Int) > (67108864:Int)))=false→tU2 ((Ans Try.prog 41 [rJ (4),RV.d (dQ false),RV.d (dS s.ord.length (is s.ord))] (RV.d (dQ ((ints ((is s.ord))).all (fitR (4:Int) false)))))∧tU3 ((((!((ints ((is s.ord))).all (fitR (4:Int) false)))=false→tU6 ((((decide ((s.ims.length:Int) > (64:Int)))=false→tU5 ((((decide ((s.ops.length:Int) > (4096:Int)))=true→True∧RV.d (dQ false)=RV.d (dQ (zQO s)))∧((decide ((s.ops.length:Int) > (4096:Int)))=false→True∧((∃ k:Nat,(zz0 k)∧(((0=0)∧(dJ 0=dJ (k:Int))∧True)∧zz2))∧∀ k:Nat,(zz0 k)→tU5 ((((decide ((k:Int) < (s.ims.length:Int)))=true→tU3 ((0≤(k:Int)∧(k:Int) < (s.ims.length:Int)∧(k:Int).toNat*28 < (ims s.ims).length)∧((imQr (ims s.ims) ((k:Int).toNat*28)))∧(Ans Try.prog 42 [imR (imQ (ims s.ims) ((k:Int).toNat*28))] (RV.d (dQ (Im.formed (imQ (ims s.ims) ((k:Int).toNat*28))))))∧True∧(((!(Im.formed (imQ (ims s.ims) ((k:Int).toNat*28))))=true→True∧RV.d (dQ false)=RV.d (dQ (zQO s)))∧((!(Im.formed (imQ (ims s.ims) ((k:Int).toNat*28))))=false→tU3 (∃ k':Nat,(k'≤s.ims.length∧(s.ims.take k').all Im.formed=true)∧(s.ims.length - k' < s.ims.length - k)∧(((0=0)∧(dJ (wK ((k:Int)+(1:Int)))=dJ (k':Int))∧True)∧zz2))))))∧((decide ((k:Int) < (s.ims.length:Int)))=false→True∧((∃ j:Nat,(zz3 j)∧(((0=0)∧(dJ 0=dJ (j:Int))∧True)∧zz2))∧∀ j:Nat,(zz3 j)→tU5 ((((decide ((j:Int) < (s.ops.length:Int)))=true→tU3 ((0≤(j:Int)∧(j:Int) < (s.ops.length:Int)∧(j:Int).toNat*12 < (ops s.ops).length)∧((oqQr (ops s.ops) ((j:Int).toNat*12)))∧tU5 (tU8 ((Ans Try.prog 41 [rJ (1),RV.d (dQ false),RV.d (dS 5 ([dJ (nAt (ops s.ops) ((j:Int).toNat*12)),dJ (nAt (ops s.ops) ((j:Int).toNat*12+1)),dJ (nAt (ops s.ops) ((j:Int).toNat*12+1+1+1+1)),dJ (nAt (ops s.ops) ((j:Int).toNat*12+1+1+1+1+1+1+1+1)),dJ (nAt (ops s.ops) ((j:Int).toNat*12+1+1+1+1+1+1+1+1+1))]))] (RV.d (dQ ((ints (([dJ (nAt (ops s.ops) ((j:Int).toNat*12)),dJ (nAt (ops s.ops) ((j:Int).toNat*12+1)),dJ (nAt (ops s.ops) ((j:Int).toNat*12+1+1+1+1)),dJ (nAt (ops s.ops) ((j:Int).toNat*12+1+1+1+1+1+1+1+1)),dJ (nAt (ops s.ops) ((j:Int).toNat*12+1+1+1+1+1+1+1+1+1))]))).all (fitR (1:Int) false)))))∧tU2 ((((!((ints (([dJ (nAt (ops s.ops) ((j:Int).toNat*12)),dJ (nAt (ops s.ops) ((j:Int).toNat*12+1)),dJ (nAt (ops s.ops) ((j:Int).toNat*12+1+1+1+1)),dJ (nAt (ops s.ops) ((j:Int).toNat*12+1+1+1+1+1+1+1+1)),dJ (nAt (ops s.ops) ((j:Int).toNat*12+1+1+1+1+1+1+1+1+1))]))).all (fitR (1:Int) false)))=false→True∧tU8 ((Ans Try.prog 41 [rJ (4),RV.d (dQ true),RV.d (dS 4 ([dJ (nAt (ops s.ops) ((j:Int).toNat*12+1+1)),dJ (nAt (ops s.ops) ((j:Int).toNat*12+1+1+1)),dJ (nAt (ops s.ops) ((j:Int).toNat*12+1+1+1+1+1)),dJ (nAt (ops s.ops) ((j:Int).toNat*12+1+1+1+1+1+1))]))] (RV.d (dQ ((ints (([dJ (nAt (ops s.ops) ((j:Int).toNat*12+1+1)),dJ (nAt (ops s.ops) ((j:Int).toNat*12+1+1+1)),dJ (nAt (ops s.ops) ((j:Int).toNat*12+1+1+1+1+1)),dJ (nAt (ops s.ops) ((j:Int).toNat*12+1+1+1+1+1+1))]))).all (fitR (4:Int) true)))))∧tU2 ((((!((ints (([dJ (nAt (ops s.ops) ((j:Int).toNat*12+1+1)),dJ (nAt (ops s.ops) ((j:Int).toNat*12+1+1+1)),dJ (nAt (ops s.ops) ((j:Int).toNat*12+1+1+1+1+1)),dJ (nAt (ops s.ops) ((j:Int).toNat*12+1+1+1+1+1+1))]))).all (fitR (4:Int) true)))=true→True∧RV.d (dQ false)=RV.d (dQ (zQO s)))∧((!((ints (([dJ (nAt (ops s.ops) ((j:Int).toNat*12+1+1)),dJ (nAt (ops s.ops) ((j:Int).toNat*12+1+1+1)),dJ (nAt (ops s.ops) ((j:Int).toNat*12+1+1+1+1+1)),dJ (nAt (ops s.ops) ((j:Int).toNat*12+1+1+1+1+1+1))]))).all (fitR (4:Int) true)))=false→tU3 (∃ j':Nat,(j'≤s.ops.length∧(s.ops.take j').all opOk=true)∧(s.ops.length - j' < s.ops.length - j)∧(((0=0)∧(dJ (wK ((j:Int)+(1:Int)))=dJ (j':Int))∧True)∧zz2)))))))∧((!((ints (([dJ (nAt (ops s.ops) ((j:Int).toNat*12)),dJ (nAt (ops s.ops) ((j:Int).toNat*12+1)),dJ (nAt (ops s.ops) ((j:Int).toNat*12+1+1+1+1)),dJ (nAt (ops s.ops) ((j:Int).toNat*12+1+1+1+1+1+1+1+1)),dJ (nAt (ops s.ops) ((j:Int).toNat*12+1+1+1+1+1+1+1+1+1))]))).all (fitR (1:Int) false)))=(!false)→tU2 (RV.d (dQ false)=RV.d (dQ (zQO s))))))))))∧((decide ((j:Int) < (s.ops.length:Int)))=false→True∧(Ans Try.prog 43 [RV.agg zz1] (rJ ((lenR (⟨s.bits,s.c,s.tw,s.th,ints (is s.ord),zQv (ims s.ims),zQp (ops s.ops)⟩:Scr)))))∧tU2 (RV.d (dQ (decide ((lenR (⟨s.bits,s.c,s.tw,s.th,ints (is s.ord),zQv (ims s.ims),zQp (ops s.ops)⟩:Scr))≥(0:Int))))=RV.d (dQ (zQO s)))))))))))))))∧((decide ((s.ims.length:Int) > (64:Int)))=(!false)→tU2 (RV.d (dQ false)=RV.d (dQ (zQO s)))))))∧((!((ints ((is s.ord))).all (fitR (4:Int) false)))=(!false)→tU4 (RV.d (dQ false)=RV.d (dQ (zQO s))))))))∧((decide ((s.ord.length:Int) > (67108864:Int)))=(!false)→tU6 (RV.d (dQ false)=RV.d (dQ (zQO s)))))))∧((!((ints (([dJ s.tw,dJ s.th]))).all (fitR (4:Int) false)))=(!false)→tU8 (RV.d (dQ false)=RV.d (dQ (zQO s))))))))∧((!((ints (([dJ s.c.a,dJ s.c.b,dJ s.c.c,dJ s.c.d]))).all (fitR (4:Int) true)))=(!false)→tU2 (tU8 (RV.d (dQ false)=RV.d (dQ (zQO s)))))))))∧((!(fitR (1:Int) false s.bits))=(!false)→tU4 (tU8 (RV.d (dQ false)=RV.d (dQ (zQO s))))))))):=by kernel_rfl
theorem zVC (s:Scr):Ans Try.prog 17 [RV.agg [DV.int .i64 s.bits,DV.int .i64 s.c.a,DV.int .i64 s.c.b,DV.int .i64 s.c.c,DV.int .i64 s.c.d,DV.int .i64 s.tw,DV.int .i64 s.th,DV.sl s.ord.length (is s.ord),DV.sl s.ims.length (ims s.ims),DV.sl s.ops.length (ops s.ops)]] (RV.d (DV.bool (zQO s))):=
  zQf (Γ:=jJT) (zYv s) zQq Try.func17 rfl (Nat.le_of_ble_eq_true rfl) fun hwf=>by
    refine Eq.mpr (zWs s) ?_
    delta tU2 tU3 tU4 tU5 tU6 tU8 dJ dQ wK dS rJ
    simp only [true_and,and_true,RV.d.injEq,RV.agg.injEq,RV.tup.injEq,DV.bool.injEq,DV.int.injEq,DV.sl.injEq,List.cons.injEq,forall_const,Bool.not_false,Bool.not_true,Bool.not_eq_true',Bool.not_eq_false',decide_eq_true_eq,decide_eq_false_iff_not,Int.toNat_natCast,imQ,imQr,oqQr]
    have a1:=zV4 s.bits 1 false (.inl ⟨rfl,rfl⟩)
    have a2:=zXS 4 true [s.c.a,s.c.b,s.c.c,s.c.d] (.inr rfl)
    have a3:=zXS 4 false [s.tw,s.th] (.inr rfl)
    have a4:=zXS 4 false s.ord (.inr rfl)
    have es:∀ l:List Int,l.all (fitR 4 true)=fitL (-2147483648) 2147483647 l:=fun l=>by unfold fitL; congr; funext v; exact jXp v
    have eu:∀ l:List Int,l.all (fitR 4 false)=fitL 0 4294967295 l:=fun l=>by unfold fitL; congr; funext v; exact jQC v
    have e1:∀ l:List Int,l.all (fitR 1 false)=fitL 0 255 l:=fun l=>by unfold fitL; congr; funext v; exact jXq v
    have eb:fitR 1 false s.bits=fitL 0 255 [s.bits]:=by rw [← e1]; simp
    have hil:s.ims.length≤9223372036854775807∧s.ops.length≤9223372036854775807:=by
      simp only [RV.wfs,RV.wf,DV.wf,DV.wfs,maxLen] at hwf
      omega
    clear hwf
    have fal:zXI s=false→false=zQO s:=fun h=>by simp [zQO,h]
    simp only [zZo,es,eu,eb] at a1 a2 a3 a4 ⊢
    refine ⟨a1,fun h1=>⟨a2,fun h2=>⟨a3,fun h3=>⟨fun h0=>⟨a4,fun h4=>⟨fun h5=>⟨fun h6=>?_,fun h6=>?_⟩,fun h5=>?_⟩,fun h4=>?_⟩,fun h0=>?_⟩,fun h3=>?_⟩,fun h2=>?_⟩,fun h1=>?_⟩
    · exact fal (by simp [zXI]; omega)
    · have g1:fitL 0 255 [s.bits]=true:=h1
      have g2:fitL (-2147483648) 2147483647 [s.c.a,s.c.b,s.c.c,s.c.d]=true:=h2
      have g3:fitL 0 4294967295 [s.tw,s.th]=true:=h3
      have hd:zXI s=true:=by simp only [zXI,g1,g2,g3,h4,Bool.and_true,Bool.true_and,Bool.and_eq_true,decide_eq_true_eq]; omega
      refine ⟨⟨0,⟨Nat.zero_le _,by simp⟩,rfl⟩,fun k hk=>⟨fun hlt=>?_,fun hge=>?_⟩⟩
      · obtain ⟨k1,k2⟩:=hk
        have hk:k < s.ims.length:=by omega
        have q1:=zVX hk
        have q2:=zVY hk
        have w1:IntKind.wrap .i64 ((k:Int)+1)=((k+1:Nat):Int):=by rw [IntWalk.i64_in _ ⟨by omega,by omega⟩]; omega
        have wf:=zHX s.ims[k]
        simp only [q2,w1]
        refine ⟨⟨by omega,by omega,by rw [zZk]; omega⟩,q1,wf,fun h7=>?_,fun h7=>?_⟩
        · have h7:s.ims[k].formed=false:=h7
          simp [zQO,all_false' hk h7]
        · have h7:s.ims[k].formed=true:=h7
          exact ⟨k+1,⟨by omega,by rw [all_take' hk,k2,h7]; rfl⟩,by omega,rfl⟩
      · obtain ⟨k1,k2⟩:=hk
        have:k=s.ims.length:=by omega
        subst this
        rw [List.take_length] at k2
        refine ⟨⟨0,⟨Nat.zero_le _,by simp⟩,rfl⟩,fun j hj=>⟨fun hlt=>?_,fun hge=>?_⟩⟩
        · obtain ⟨j1,j2⟩:=hj
          have hj:j < s.ops.length:=by omega
          have q1:=zVT hj
          have q2:=zUc hj
          have w1:IntKind.wrap .i64 ((j:Int)+1)=((j+1:Nat):Int):=by rw [IntWalk.i64_in _ ⟨by omega,by omega⟩]; omega
          have b1:=zXS 1 false [s.ops[j].kind,s.ops[j].image,s.ops[j].mask,s.ops[j].oper,s.ops[j].mode] (.inl ⟨rfl,rfl⟩)
          have b2:=zXS 4 true [s.ops[j].x,s.ops[j].y,s.ops[j].mx,s.ops[j].my] (.inr rfl)
          simp only [q2,w1,e1] at b1 b2 ⊢
          simp only [es] at b2 ⊢
          have bad:opOk s.ops[j]=false→false=zQO s:=fun h=>by simp [zQO,all_false' hj h]
          refine ⟨⟨by omega,by omega,by rw [zQY]; omega⟩,q1,b1,fun h7=>⟨b2,fun h8=>bad ?_,fun h8=>⟨j+1,⟨by omega,?_⟩,by omega,rfl⟩⟩,fun h7=>bad ?_⟩
          · have h8:fitL (-2147483648) 2147483647 [s.ops[j].x,s.ops[j].y,s.ops[j].mx,s.ops[j].my]=false:=h8
            simp [opOk,h8]
          · have h7:fitL 0 255 [s.ops[j].kind,s.ops[j].image,s.ops[j].mask,s.ops[j].oper,s.ops[j].mode]=true:=h7
            have h8:fitL (-2147483648) 2147483647 [s.ops[j].x,s.ops[j].y,s.ops[j].mx,s.ops[j].my]=true:=h8
            rw [all_take' hj,j2]
            simp [opOk,h7,h8]
          · have h7:fitL 0 255 [s.ops[j].kind,s.ops[j].image,s.ops[j].mask,s.ops[j].oper,s.ops[j].mode]=false:=h7
            simp [opOk,h7]
        · obtain ⟨j1,j2⟩:=hj
          have:j=s.ops.length:=by omega
          subst this
          rw [List.take_length] at j2
          have ln:=zGj s k2 (by omega) (by omega)
          simp only [zXM,zXu]
          refine ⟨ln,?_⟩
          have hmo:min (s.ord.length:Int) 67108864=s.ord.length:=by omega
          have hzl:=zZr k2
          have hsz:zZI s s.ims=zZm s s.ims:=by unfold zZI zZm; rw [hmo]
          have hpos:0≤zZm s s.ims:=by unfold zZm; omega
          have e1:zQO s=decide (zZm s s.ims≤67108864):=by simp only [zQO,hd,k2,j2,Bool.true_and]
          rw [e1]
          unfold lenR
          rw [hsz]
          by_cases hb:zZm s s.ims≤67108864
          · rw [if_pos hb,decide_eq_true hb]
            exact decide_eq_true hpos
          · rw [if_neg hb,decide_eq_false hb]
            rfl
    · exact fal (by simp [zXI]; omega)
    · exact fal (by simp [zXI,h4])
    · have:zQO s=false:=by
        cases hc:s.ims.all Im.formed with
        | false=>simp [zQO,hc]
        | true=>
          have:=zZr hc
          have hn:¬ zZm s s.ims≤67108864:=by unfold zZm; omega
          simp [zQO,hn]
      exact this.symm
    · have h3:fitL 0 4294967295 [s.tw,s.th]=false:=h3
      exact fal (by simp [zXI,h3])
    · have h2:fitL (-2147483648) 2147483647 [s.c.a,s.c.b,s.c.c,s.c.d]=false:=h2
      exact fal (by simp [zXI,h2])
    · have h1:fitL 0 255 [s.bits]=false:=h1
      exact fal (by simp [zXI,h1])
end Go.Proofs.Ytlnfgagmiogkgaa
namespace Go.Proofs.Ytlnfgagmiogkgaa
open Go.RowKit
set_option linter.unusedVariables false
set_option linter.unusedSimpArgs false
attribute [local irreducible] Ans AnsO AnsG AnsN AnsI
set_option maxRecDepth 4000
def encA (s:Scr) (k:Nat):List Int:=[76,67]++putL 1 [s.bits]++putL 4 [s.c.a,s.c.b,s.c.c,s.c.d,s.tw,s.th,(s.ord.length:Int)]++putL 4 s.ord++putL 1 [(s.ims.length:Int)]++(s.ims.take k).flatMap imB_
def encC (s:Scr) (j:Nat):List Int:=encA s s.ims.length++putL 2 [(s.ops.length:Int)]++(s.ops.take j).flatMap opB
theorem jXv (s:Scr):encC s s.ops.length=encB s:=by
  unfold encC encA encB
  rw [List.take_length,List.take_length]
theorem jQI {s:Scr} {k:Nat} (h:k < s.ims.length):encA s (k+1)=encA s k++imB_ s.ims[k]:=by
  unfold encA
  rw [List.take_succ_eq_append_getElem h,List.flatMap_append]
  simp only [List.append_assoc,List.flatMap_cons,List.flatMap_nil,List.append_nil]
theorem jQH {s:Scr} {j:Nat} (h:j < s.ops.length):encC s (j+1)=encC s j++opB s.ops[j]:=by
  unfold encC
  rw [List.take_succ_eq_append_getElem h,List.flatMap_append]
  simp only [List.append_assoc,List.flatMap_cons,List.flatMap_nil,List.append_nil]
theorem zJT:∀ {l:List Im},l.all Im.formed=true→((l.flatMap imB_).length:Int)=zQL l
  | [],_=>by simp [zQL]
  | m::l,h=>by
    simp only [List.all_cons,Bool.and_eq_true] at h
    have h1:=jYY h.1
    have h2:=zJT h.2
    simp only [List.flatMap_cons,List.length_append,zQL]
    omega
theorem zWA:∀ (l:List Oq),(l.flatMap opB).length=l.length*24
  | []=>by simp
  | o::l=>by
    simp only [List.flatMap_cons,List.length_append,jYK,List.length_cons,zWA l]; omega
structure Enc (s:Scr):Prop where
  fm:s.ims.all Im.formed=true
  sz:zZm s s.ims≤67108864
  bits:0≤s.bits∧s.bits≤255
  il:s.ims.length≤64
  ol:s.ops.length≤4096
theorem zUM {s:Scr} (h:zQO s=true):Enc s:=by
  simp only [zQO,zXI,Bool.and_eq_true,decide_eq_true_eq] at h
  obtain ⟨⟨⟨⟨⟨⟨⟨⟨h1,h2⟩,h3⟩,h4⟩,h5⟩,h6⟩,h7⟩,h8⟩,h9⟩:=h
  simp [fitL] at h1
  exact ⟨h7,h9,h1,h5,h6⟩
theorem zHE {s:Scr} (h:Enc s) (k:Nat):((encA s k).length:Int)=32+4*(s.ord.length:Int)+zQL (s.ims.take k)∧(encA s k).length≤67108864:=by
  have h1:(s.ims.take k).all Im.formed=true:=by
    have:=h.fm
    rw [List.all_eq_true] at this ⊢
    exact fun m hm=>this m (List.mem_of_mem_take hm)
  have h2:=zJT h1
  have h3:=zVM (k:=k) h.fm
  have h4:=h.sz
  have h5:=zZr h.fm
  unfold zZm at h4
  unfold encA
  simp only [List.length_append,zQI,List.length_cons,List.length_nil]
  omega
theorem jXu {s:Scr} (h:Enc s) (j:Nat):(encC s j).length≤67108864:=by
  have h1:=(zHE h s.ims.length).1
  have h4:=h.sz
  have h2:=zWA (s.ops.take j)
  have h3:(s.ops.take j).length≤s.ops.length:=by rw [List.length_take]; omega
  rw [List.take_length] at h1
  unfold zZm at h4
  unfold encC
  simp only [List.length_append,zQI,List.length_cons,List.length_nil,h2]
  omega
def jVR:Gam where
 pure:=fun f xs=>
  if f=14 then (match xs with | [.agg [.int _ bits,.int _ cx0,.int _ cy0,.int _ cx1,.int _ cy1,.int _ tw,.int _ th,.sl on oxs,.sl mn mxs,.sl pn pxs]]=>some (RV.d (dQ (zQO (⟨bits,⟨cx0,cy0,cx1,cy1⟩,tw,th,ints oxs,zQv mxs,zQp pxs⟩:Scr)))) | _=>none) else
  none
 modes:=fun f=>
  if f=29 then some ([false,true,true],1,1) else
  if f=30 then some ([false,true],1,1) else
  if f=31 then some ([false,true],1,1) else
  none
 proc:=fun f xs bs=>
  if f=29 then (match xs,bs with | [AV.one (Cl.ptr 0 0),AV.one (Cl.d (DV.int _ n)),AV.one (Cl.d (DV.sl ln lxs))],[Bx.cells [Cl.ref 1 bn],Bx.row _ _ bxs]=>some ⟨AV.tup [],[bC [Cl.ref 1 (((ints bxs)++putL n.toNat (ints lxs)).length)],Bx.row 5 1 (u8s ((ints bxs)++putL n.toNat (ints lxs)))],false⟩ | _,_=>none) else
  if f=30 then (match xs,bs with | [AV.one (Cl.ptr 0 0),AV.agg [Cl.d (DV.int _ w),Cl.d (DV.int _ h),Cl.d (DV.bool so),Cl.d (DV.int _ c0),Cl.d (DV.int _ c1),Cl.d (DV.int _ c2),Cl.d (DV.int _ ca),Cl.d (DV.int _ cf),Cl.d (DV.int _ w0),Cl.d (DV.int _ h0),Cl.d (DV.int _ s0),Cl.d (DV.sl n0 xs0),Cl.d (DV.int _ w1),Cl.d (DV.int _ h1),Cl.d (DV.int _ s1),Cl.d (DV.sl n1 xs1),Cl.d (DV.int _ w2),Cl.d (DV.int _ h2),Cl.d (DV.int _ s2),Cl.d (DV.sl n2 xs2),Cl.d (DV.int _ w3),Cl.d (DV.int _ h3),Cl.d (DV.int _ s3),Cl.d (DV.sl n3 xs3),Cl.d (DV.int _ w4),Cl.d (DV.int _ h4),Cl.d (DV.int _ s4),Cl.d (DV.sl n4 xs4)]],[Bx.cells [Cl.ref 1 bn],Bx.row _ _ bxs]=>some ⟨AV.tup [],[bC [Cl.ref 1 (((ints bxs)++imB_ ⟨w,h,so,⟨c0,c1,c2,ca,cf⟩,⟨w0,h0,s0,n0,xs0⟩,⟨w1,h1,s1,n1,xs1⟩,⟨w2,h2,s2,n2,xs2⟩,⟨w3,h3,s3,n3,xs3⟩,⟨w4,h4,s4,n4,xs4⟩⟩).length)],Bx.row 5 1 (u8s ((ints bxs)++imB_ ⟨w,h,so,⟨c0,c1,c2,ca,cf⟩,⟨w0,h0,s0,n0,xs0⟩,⟨w1,h1,s1,n1,xs1⟩,⟨w2,h2,s2,n2,xs2⟩,⟨w3,h3,s3,n3,xs3⟩,⟨w4,h4,s4,n4,xs4⟩⟩))],false⟩ | _,_=>none) else
  if f=31 then (match xs,bs with | [AV.one (Cl.ptr 0 0),AV.agg [Cl.d (DV.int _ okind),Cl.d (DV.int _ oimage),Cl.d (DV.int _ ox),Cl.d (DV.int _ oy),Cl.d (DV.int _ omask),Cl.d (DV.int _ omx),Cl.d (DV.int _ omy),Cl.d (DV.int _ oopac),Cl.d (DV.int _ ooper),Cl.d (DV.int _ omode),Cl.d (DV.bool oiso),Cl.d (DV.bool okno)]],[Bx.cells [Cl.ref 1 bn],Bx.row _ _ bxs]=>some ⟨AV.tup [],[bC [Cl.ref 1 (((ints bxs)++opB ⟨okind,oimage,ox,oy,omask,omx,omy,oopac,ooper,omode,oiso,okno⟩).length)],Bx.row 5 1 (u8s ((ints bxs)++opB ⟨okind,oimage,ox,oy,omask,omx,omy,oopac,ooper,omode,oiso,okno⟩))],false⟩ | _,_=>none) else
  none
 iter:=fun f cs=>
  none
def zYj (s:Scr):Ann:=let zz0:=(dS s.ims.length (ims s.ims)); let zz1:=(dS s.ops.length (ops s.ops)); (Ann.seq Ann.leaf (Ann.seq Ann.leaf (Ann.seq Ann.leaf (Ann.seq Ann.leaf (Ann.seq Ann.leaf (Ann.seq Ann.leaf (Ann.seq Ann.leaf (Ann.seq (Ann.seq Ann.leaf (Ann.loop ⟨Nat,fun k=>k≤s.ims.length,fun k=>⟨[(1,AV.one (Cl.ptr 1 0)),(4,AV.one (Cl.ptr 15 0)),(54,AV.one (Cl.d zz0)),(55,aJ (((s.ims.length:Int)))),(56,aJ (((k:Int))))],[(1,bC [cJ (s.bits),cJ (s.c.a),cJ (s.c.b),cJ (s.c.c),cJ (s.c.d),cJ (s.tw),cJ (s.th),Cl.d (dS s.ord.length (is s.ord)),Cl.d zz0,Cl.d zz1]),(15,bC [Cl.ref 9001 ((encA s k).length)]),(9001,Bx.row 5 1 (u8s (encA s k)))]⟩,fun k=>s.ims.length - k⟩ fun k=>Ann.leaf)) (Ann.seq Ann.leaf (Ann.seq (Ann.seq Ann.leaf (Ann.loop ⟨Nat,fun j=>j≤s.ops.length,fun j=>⟨[(4,AV.one (Cl.ptr 15 0)),(71,AV.one (Cl.d zz1)),(72,aJ (((s.ops.length:Int)))),(73,aJ (((j:Int))))],[(15,bC [Cl.ref 9002 ((encC s j).length)]),(9002,Bx.row 5 1 (u8s (encC s j)))]⟩,fun j=>s.ops.length - j⟩ fun j=>Ann.leaf)) Ann.leaf))))))))))
theorem zWh (s:Scr):vcg Try.prog jVR 85 (zQl Try.f11) (zYj s) kn0 (zQN [RV.agg [DV.int .i64 s.bits,DV.int .i64 s.c.a,DV.int .i64 s.c.b,DV.int .i64 s.c.c,DV.int .i64 s.c.d,DV.int .i64 s.tw,DV.int .i64 s.th,DV.sl s.ord.length (is s.ord),DV.sl s.ims.length (ims s.ims),DV.sl s.ops.length (ops s.ops)]]) (post Try.prog Try.f11.results.toList (·=RV.tup [RV.d (DV.sl ((encS s).1.length) (u8s (encS s).1)),RV.d (DV.int .i64 ((encS s).2))])) =
  (let zz0:=[dJ s.bits,dJ s.c.a,dJ s.c.b,dJ s.c.c,dJ s.c.d,dJ s.tw,dJ s.th,dS s.ord.length (is s.ord),dS s.ims.length (ims s.ims),dS s.ops.length (ops s.ops)]; let zz1:=[RV.d (dS ((encS s).1.length) (u8s (encS s).1)),rJ (((encS s).2))]; let zz2:=(cJ (1)); let zz3:=[bC [Cl.ref 1 (((ints ([DV.int .u8 (76:Int),DV.int .u8 (67:Int)]))++putL 1 (ints ([dJ s.bits]))).length)],Bx.row 5 1 (u8s ((ints ([DV.int .u8 (76:Int),DV.int .u8 (67:Int)]))++putL 1 (ints ([dJ s.bits]))))]; let zz4:=(cJ (4)); let zz5:=[bC [Cl.ref 1 (((iU (((ints ([DV.int .u8 (76:Int),DV.int .u8 (67:Int)]))++putL 1 (ints ([dJ s.bits])))))++putL 4 (ints ([dJ s.c.a,dJ s.c.b,dJ s.c.c,dJ s.c.d,dJ s.tw,dJ s.th,dJ (s.ord.length:Int)]))).length)],Bx.row 5 1 (u8s ((iU (((ints ([DV.int .u8 (76:Int),DV.int .u8 (67:Int)]))++putL 1 (ints ([dJ s.bits])))))++putL 4 (ints ([dJ s.c.a,dJ s.c.b,dJ s.c.c,dJ s.c.d,dJ s.tw,dJ s.th,dJ (s.ord.length:Int)]))))]; let zz6:=[bC [Cl.ref 1 (((iU (((iU (((ints ([DV.int .u8 (76:Int),DV.int .u8 (67:Int)]))++putL 1 (ints ([dJ s.bits])))))++putL 4 (ints ([dJ s.c.a,dJ s.c.b,dJ s.c.c,dJ s.c.d,dJ s.tw,dJ s.th,dJ (s.ord.length:Int)])))))++putL 4 (ints (is s.ord))).length)],Bx.row 5 1 (u8s ((iU (((iU (((ints ([DV.int .u8 (76:Int),DV.int .u8 (67:Int)]))++putL 1 (ints ([dJ s.bits])))))++putL 4 (ints ([dJ s.c.a,dJ s.c.b,dJ s.c.c,dJ s.c.d,dJ s.tw,dJ s.th,dJ (s.ord.length:Int)])))))++putL 4 (ints (is s.ord))))]; let zz7:=(dS s.ims.length (ims s.ims)=dS s.ims.length (ims s.ims)); let zz8:=(dJ (s.ims.length:Int)=dJ (s.ims.length:Int)); let zz9:=(zz0=zz0); let zz10:=fun (k:Nat)=>[bC [Cl.ref 1 ((encA s k).length)],Bx.row 5 1 (u8s (encA s k))]; let zz11:=(dS s.ops.length (ops s.ops)=dS s.ops.length (ops s.ops)); let zz12:=(dJ (s.ops.length:Int)=dJ (s.ops.length:Int)); tU4 ((Ans Try.prog 14 [RV.agg zz0] (RV.d (dQ (zQO (⟨s.bits,s.c,s.tw,s.th,ints (is s.ord),zQv (ims s.ims),zQp (ops s.ops)⟩:Scr)))))∧True∧(((!(zQO (⟨s.bits,s.c,s.tw,s.th,ints (is s.ord),zQv (ims s.ims),zQp (ops s.ops)⟩:Scr)))=true→tU2 (RV.tup [RV.d (dS 0 ([])),rJ (19)]=RV.tup zz1))∧((!(zQO (⟨s.bits,s.c,s.tw,s.th,ints (is s.ord),zQv (ims s.ims),zQp (ops s.ops)⟩:Scr)))=false→True∧(0 < 2)∧tU7 ((AnsG Try.prog 29 1 [aPz,AV.one zz2,AV.one (Cl.d (dS 1 ([dJ s.bits])))] [bC [Cl.ref 1 2],Bx.row 5 1 ([DV.int .u8 (76:Int),DV.int .u8 (67:Int)])] ⟨AV.tup [],zz3,false⟩)∧tU5 (tU8 (tU8 ((AnsG Try.prog 29 1 [aPz,AV.one zz4,AV.one (Cl.d (dS 7 ([dJ s.c.a,dJ s.c.b,dJ s.c.c,dJ s.c.d,dJ s.tw,dJ s.th,dJ (s.ord.length:Int)])))] zz3 ⟨AV.tup [],zz5,false⟩)∧tU3 ((AnsG Try.prog 29 1 [aPz,AV.one zz4,AV.one (Cl.d (dS s.ord.length (is s.ord)))] zz5 ⟨AV.tup [],zz6,false⟩)∧tU5 ((AnsG Try.prog 29 1 [aPz,AV.one zz2,AV.one (Cl.d (dS 1 ([dJ (s.ims.length:Int)])))] zz6 ⟨AV.tup [],[bC [Cl.ref 1 (((iU (((iU (((iU (((ints ([DV.int .u8 (76:Int),DV.int .u8 (67:Int)]))++putL 1 (ints ([dJ s.bits])))))++putL 4 (ints ([dJ s.c.a,dJ s.c.b,dJ s.c.c,dJ s.c.d,dJ s.tw,dJ s.th,dJ (s.ord.length:Int)])))))++putL 4 (ints (is s.ord)))))++putL 1 (ints ([dJ (s.ims.length:Int)]))).length)],Bx.row 5 1 (u8s ((iU (((iU (((iU (((ints ([DV.int .u8 (76:Int),DV.int .u8 (67:Int)]))++putL 1 (ints ([dJ s.bits])))))++putL 4 (ints ([dJ s.c.a,dJ s.c.b,dJ s.c.c,dJ s.c.d,dJ s.tw,dJ s.th,dJ (s.ord.length:Int)])))))++putL 4 (ints (is s.ord)))))++putL 1 (ints ([dJ (s.ims.length:Int)]))))],false⟩)∧tU4 (((∃ k:Nat,(k≤s.ims.length)∧(((0=0)∧(0=0)∧zz7∧zz8∧(dJ 0=dJ (k:Int))∧True)∧(zz9∧((((iU (((iU (((iU (((ints ([DV.int .u8 (76:Int),DV.int .u8 (67:Int)]))++putL 1 (ints ([dJ s.bits])))))++putL 4 (ints ([dJ s.c.a,dJ s.c.b,dJ s.c.c,dJ s.c.d,dJ s.tw,dJ s.th,dJ (s.ord.length:Int)])))))++putL 4 (ints (is s.ord)))))++putL 1 (ints ([dJ (s.ims.length:Int)]))).length=(encA s k).length)∧True)∧(u8s ((iU (((iU (((iU (((ints ([DV.int .u8 (76:Int),DV.int .u8 (67:Int)]))++putL 1 (ints ([dJ s.bits])))))++putL 4 (ints ([dJ s.c.a,dJ s.c.b,dJ s.c.c,dJ s.c.d,dJ s.tw,dJ s.th,dJ (s.ord.length:Int)])))))++putL 4 (ints (is s.ord)))))++putL 1 (ints ([dJ (s.ims.length:Int)])))=u8s (encA s k))∧True)))∧∀ k:Nat,(k≤s.ims.length)→True∧(((decide ((k:Int) < (s.ims.length:Int)))=true→(0≤(k:Int)∧(k:Int) < (s.ims.length:Int)∧(k:Int).toNat*28 < (ims s.ims).length)∧((imQr (ims s.ims) ((k:Int).toNat*28)))∧tU4 ((AnsG Try.prog 30 1 [aPz,imD (imQ (ims s.ims) ((k:Int).toNat*28))] (zz10 k) ⟨AV.tup [],[bC [Cl.ref 1 (((iU ((encA s k)))++imB_ (imQ (ims s.ims) ((k:Int).toNat*28))).length)],Bx.row 5 1 (u8s ((iU ((encA s k)))++imB_ (imQ (ims s.ims) ((k:Int).toNat*28))))],false⟩)∧tU2 (∃ k':Nat,(k'≤s.ims.length)∧(s.ims.length - k' < s.ims.length - k)∧(((0=0)∧(0=0)∧zz7∧zz8∧(dJ (wK ((k:Int)+(1:Int)))=dJ (k':Int))∧True)∧(zz9∧((((iU ((encA s k)))++imB_ (imQ (ims s.ims) ((k:Int).toNat*28))).length=(encA s k').length)∧True)∧(u8s ((iU ((encA s k)))++imB_ (imQ (ims s.ims) ((k:Int).toNat*28)))=u8s (encA s k'))∧True)))))∧((decide ((k:Int) < (s.ims.length:Int)))=false→tU5 ((AnsG Try.prog 29 1 [aPz,aJ ((2)),AV.one (Cl.d (dS 1 ([dJ (s.ops.length:Int)])))] (zz10 k) ⟨AV.tup [],[bC [Cl.ref 1 (((iU ((encA s k)))++putL 2 (ints ([dJ (s.ops.length:Int)]))).length)],Bx.row 5 1 (u8s ((iU ((encA s k)))++putL 2 (ints ([dJ (s.ops.length:Int)]))))],false⟩)∧tU4 (((∃ j:Nat,(j≤s.ops.length)∧(((0=0)∧zz11∧zz12∧(dJ 0=dJ (j:Int))∧True)∧(((((iU ((encA s k)))++putL 2 (ints ([dJ (s.ops.length:Int)]))).length=(encC s j).length)∧True)∧(u8s ((iU ((encA s k)))++putL 2 (ints ([dJ (s.ops.length:Int)])))=u8s (encC s j))∧True)))∧∀ j:Nat,(j≤s.ops.length)→True∧(((decide ((j:Int) < (s.ops.length:Int)))=true→(0≤(j:Int)∧(j:Int) < (s.ops.length:Int)∧(j:Int).toNat*12 < (ops s.ops).length)∧((oqQr (ops s.ops) ((j:Int).toNat*12)))∧tU4 ((AnsG Try.prog 31 1 [aPz,oqD (oqQ (ops s.ops) ((j:Int).toNat*12))] [bC [Cl.ref 1 ((encC s j).length)],Bx.row 5 1 (u8s (encC s j))] ⟨AV.tup [],[bC [Cl.ref 1 (((iU ((encC s j)))++opB (oqQ (ops s.ops) ((j:Int).toNat*12))).length)],Bx.row 5 1 (u8s ((iU ((encC s j)))++opB (oqQ (ops s.ops) ((j:Int).toNat*12))))],false⟩)∧tU2 (∃ j':Nat,(j'≤s.ops.length)∧(s.ops.length - j' < s.ops.length - j)∧(((0=0)∧zz11∧zz12∧(dJ (wK ((j:Int)+(1:Int)))=dJ (j':Int))∧True)∧(((((iU ((encC s j)))++opB (oqQ (ops s.ops) ((j:Int).toNat*12))).length=(encC s j').length)∧True)∧(u8s ((iU ((encC s j)))++opB (oqQ (ops s.ops) ((j:Int).toNat*12)))=u8s (encC s j'))∧True)))))∧((decide ((j:Int) < (s.ops.length:Int)))=false→tU6 (RV.tup [RV.d (dS ((encC s j).length) (u8s (encC s j))),rJ (0)]=RV.tup zz1)))))))))))))))))))):=by kernel_rfl
theorem zVr (s:Scr) (hM:∀ m∈s.ims,m.isU) (hos:s.ord.length≤17592186044416):Ans Try.prog 11 [RV.agg [DV.int .i64 s.bits,DV.int .i64 s.c.a,DV.int .i64 s.c.b,DV.int .i64 s.c.c,DV.int .i64 s.c.d,DV.int .i64 s.tw,DV.int .i64 s.th,DV.sl s.ord.length (is s.ord),DV.sl s.ims.length (ims s.ims),DV.sl s.ops.length (ops s.ops)]] (RV.tup [RV.d (DV.sl ((encS s).1.length) (u8s (encS s).1)),RV.d (DV.int .i64 ((encS s).2))]):=
  zQf (Γ:=jVR) (zYj s) zQq Try.func11 rfl (Nat.le_of_ble_eq_true rfl) fun hwf=>by
    refine Eq.mpr (zWh s) ?_
    delta tU2 tU3 tU4 tU5 tU6 tU7 tU8 dJ dQ cJ wK dS rJ aJ aPz bC iU
    simp only [true_and,and_true,RV.d.injEq,RV.agg.injEq,RV.tup.injEq,DV.bool.injEq,DV.int.injEq,DV.sl.injEq,List.cons.injEq,forall_const,Bool.not_false,Bool.not_true,Bool.not_eq_true',Bool.not_eq_false',decide_eq_true_eq,decide_eq_false_iff_not,Int.toNat_natCast,imQ,imQr,oqQ,oqQr,oqD]
    have eo:=zJ5 s hM hos
    have hS:zQO s=false→encS s=([],19):=fun h=>by unfold encS; rw [h]; rfl
    have hT:zQO s=true→encS s=(encB s,0):=fun h=>by unfold encS; rw [if_pos h]
    clear hwf
    simp only [zXM,zXu,zQZ,zZo,zJp,zK5]
    have t4:(4:Int).toNat=4:=rfl
    have t1:(1:Int).toNat=1:=rfl
    refine ⟨eo,fun h=>?_,fun h=>?_⟩
    · rw [hS h]; exact ⟨⟨rfl,rfl⟩,rfl⟩
    · have hT:=hT h
      have E:Enc s:=zUM h
      have hsz:=E.sz
      have hzl:=zZr E.fm
      have hol:=E.ol
      have hil:=E.il
      have hA:=fun k=>zHE E k
      have hC:=fun j=>jXu E j
      unfold zZm at hsz
      have p1:=zQh [76,67] 1 [s.bits] ⟨by omega,by omega⟩ (by simp only [List.length_cons,List.length_nil]; omega)
      have p2:=zQh ([76,67]++putL 1 [s.bits]) 4 [s.c.a,s.c.b,s.c.c,s.c.d,s.tw,s.th,(s.ord.length:Int)] ⟨by omega,by omega⟩ (by simp only [List.length_append,zQI,List.length_cons,List.length_nil,t4,t1]; omega)
      have p3:=zQh ([76,67]++putL 1 [s.bits]++putL 4 [s.c.a,s.c.b,s.c.c,s.c.d,s.tw,s.th,(s.ord.length:Int)]) 4 s.ord ⟨by omega,by omega⟩ (by simp only [List.length_append,zQI,List.length_cons,List.length_nil,t4,t1]; omega)
      have p4:=zQh ([76,67]++putL 1 [s.bits]++putL 4 [s.c.a,s.c.b,s.c.c,s.c.d,s.tw,s.th,(s.ord.length:Int)]++putL 4 s.ord) 1 [(s.ims.length:Int)] ⟨by omega,by omega⟩ (by simp only [List.length_append,zQI,List.length_cons,List.length_nil,t4,t1]; omega)
      have eA:[76,67]++putL 1 [s.bits]++putL 4 [s.c.a,s.c.b,s.c.c,s.c.d,s.tw,s.th,(s.ord.length:Int)]++putL 4 s.ord++putL 1 [(s.ims.length:Int)]=encA s 0:=by unfold encA; simp only [List.take_zero,List.flatMap_nil,List.append_nil]
      refine ⟨by omega,p1,p2,p3,p4,⟨0,Nat.zero_le _,rfl,by rw [eA],by rw [eA]⟩,fun k hk=>⟨fun hlt=>?_,fun hge=>?_⟩⟩
      · have hk:k < s.ims.length:=by omega
        have q1:=zVX hk
        have q2:=zVY hk
        have w1:IntKind.wrap .i64 ((k:Int)+1)=((k+1:Nat):Int):=by rw [IntWalk.i64_in _ ⟨by omega,by omega⟩]; omega
        have hfm:s.ims[k].formed=true:=by have:=E.fm; rw [List.all_eq_true] at this; exact this _ (List.getElem_mem hk)
        have pi:=zYA (encA s k) s.ims[k] hfm (hM _ (List.getElem_mem hk)) (by have:=(hA k).2; omega)
        have eS:=jQI hk
        simp only [q2,w1]
        refine ⟨⟨by omega,by omega,by rw [zZk]; omega⟩,q1,pi,k+1,by omega,by omega,rfl,?_,?_⟩
        · rw [eS]
        · rw [eS]
      · have:k=s.ims.length:=by omega
        subst this
        have p5:=zQh (encA s s.ims.length) 2 [(s.ops.length:Int)] ⟨by omega,by omega⟩ (by have:=(hA s.ims.length).2; simp only [List.length_cons,List.length_nil]; omega)
        have eC:encA s s.ims.length++putL 2 [(s.ops.length:Int)]=encC s 0:=by unfold encC; simp only [List.take_zero,List.flatMap_nil,List.append_nil]
        refine ⟨p5,⟨0,Nat.zero_le _,rfl,by rw [eC],by rw [eC]⟩,fun j hj=>⟨fun hlt=>?_,fun hge=>?_⟩⟩
        · have hj:j < s.ops.length:=by omega
          have q1:=zVT hj
          have q2:=zUc hj
          have w1:IntKind.wrap .i64 ((j:Int)+1)=((j+1:Nat):Int):=by rw [IntWalk.i64_in _ ⟨by omega,by omega⟩]; omega
          have po:=zJ2 (encC s j) s.ops[j] (by have:=hC j; omega)
          have eS:=jQH hj
          simp only [q2,w1]
          refine ⟨⟨by omega,by omega,by rw [zQY]; omega⟩,q1,po,j+1,by omega,by omega,rfl,?_,?_⟩
          · rw [eS]
          · rw [eS]
        · have:j=s.ops.length:=by omega
          subst this
          rw [hT,jXv]
          exact ⟨⟨rfl,rfl⟩,rfl⟩
end Go.Proofs.Ytlnfgagmiogkgaa
namespace Go.Proofs.Ytlnfgagmiogkgaa
open Go.RowKit
set_option linter.unusedVariables false
set_option linter.unusedSimpArgs false
attribute [local irreducible] Ans AnsO AnsG AnsN AnsI
set_option maxRecDepth 4000
theorem jVp {l:List Oq} (h:DV.wfs (ops l)) {k:Nat} (hk:k < l.length):0≤l[k].opac∧l[k].opac≤65535:=by
  obtain ⟨_,_,_,_,_,_,_,e,_⟩:=zVT hk
  have:=(jQ1 _).1 h _ (List.mem_of_getElem? e)
  exact this
theorem jVZ {i:Nat} (h:i < 8):IntKind.wrap .u64 (8*(i:Int))=8*(i:Int):=by
  rcases (by omega:i=0∨i=1∨i=2∨i=3∨i=4∨i=5∨i=6∨i=7) with rfl | rfl | rfl | rfl | rfl | rfl | rfl | rfl <;> rfl
def hdr7 (s:Scr):List Int:=[76,67]++putL 1 [s.bits]++putL 4 [s.c.a,s.c.b,s.c.c,s.c.d,s.tw,s.th,(s.ord.length:Int)]
def encO (s:Scr) (k:Nat):List Int:=hdr7 s++putL 4 (s.ord.take k)
def hdB (m:Im):List Int:=putL 1 [if m.so then 1 else 0]++putL 4 [m.w,m.h]
def pxL (m:Im):List Px:=if m.so then [m.c] else m.pixels
def mAt (s:Scr) (k:Nat):Im:=s.ims[k]?.getD (zQa 0 0 .zero)
theorem jVC {s:Scr} {k:Nat} (h:k < s.ims.length):mAt s k=s.ims[k]:=by simp [mAt,List.getElem?_eq_getElem h]
theorem jJb {s:Scr} {k:Nat} (h:k < s.ord.length):encO s (k+1)=encO s k++beI 4 s.ord[k]:=by
  unfold encO
  rw [zW0 h,List.append_assoc]
theorem jJ2 (s:Scr):encO s s.ord.length++beI 1 (s.ims.length:Int)=encA s 0:=by
  unfold encO encA hdr7
  simp only [List.take_length,List.take_zero,List.flatMap_nil,List.append_nil]
  rfl
theorem jVG (m:Im):imB_ m=hdB m++(pxL m).flatMap pxB:=by
  unfold imB_ hdB pxL
  cases m.so <;> simp
def jX1:Gam where
 pure:=fun f xs=>
  if f=33 then (match xs with | [.d (.bool is_)]=>some (rJ ((if is_ then 1 else 0))) | _=>none) else
  none
 modes:=fun f=>
  if f=32 then some ([false,true,true],0,1) else
  if f=35 then some ([false,true],0,1) else
  none
 proc:=fun f xs bs=>
  if f=32 then (match xs,bs with | [AV.one (Cl.ref 0 bn),AV.one (Cl.d (DV.int _ n)),AV.one (Cl.d (DV.int _ size))],[Bx.row _ _ bxs]=>some ⟨AV.one (Cl.ref 0 (((ints bxs)++beI size.toNat n).length)),[Bx.row 5 1 (u8s ((ints bxs)++beI size.toNat n))],false⟩ | _,_=>none) else
  if f=35 then (match xs,bs with | [AV.one (Cl.ref 0 bn),AV.agg [Cl.d (DV.int _ c0),Cl.d (DV.int _ c1),Cl.d (DV.int _ c2),Cl.d (DV.int _ ca),Cl.d (DV.int _ cf)]],[Bx.row _ _ bxs]=>some ⟨AV.one (Cl.ref 0 (((ints bxs)++pxB ⟨c0,c1,c2,ca,cf⟩).length)),[Bx.row 5 1 (u8s ((ints bxs)++pxB ⟨c0,c1,c2,ca,cf⟩))],false⟩ | _,_=>none) else
  none
 iter:=fun f cs=>
  none
def zUT (is_:Bool):Ann:=Ann.leaf
theorem jYa (is_:Bool):vcg Try.prog jX1 4 (zQl Try.f33) (zUT is_) kn0 (zQN [RV.d (DV.bool is_)]) (post Try.prog Try.f33.results.toList (·=RV.d (DV.int .i64 (if is_ then 1 else 0)))) =
  (let zz0:=(dJ (if is_ then 1 else 0)); tU2 (((is_=true→True∧rJ (1)=RV.d zz0)∧(is_=false→True∧rJ (0)=RV.d zz0)))):=by kernel_rfl
theorem zKL (is_:Bool):Ans Try.prog 33 [RV.d (DV.bool is_)] (RV.d (DV.int .i64 (if is_ then 1 else 0))):=
  zQf (Γ:=jX1) (zUT is_) zQq Try.func33 rfl (Nat.le_of_ble_eq_true rfl) fun hwf=>by
    refine Eq.mpr (jYa is_) ?_
    delta tU2 dJ rJ
    simp only [true_and,and_true,RV.d.injEq,RV.agg.injEq,RV.tup.injEq,DV.bool.injEq,DV.int.injEq,DV.sl.injEq,List.cons.injEq,forall_const,Bool.not_false,Bool.not_true,Bool.not_eq_true',Bool.not_eq_false',decide_eq_true_eq,decide_eq_false_iff_not,Int.toNat_natCast]
    cases is_ <;> simp
def zUU (b:List Int) (n:Int) (size:Int):Ann:=(Ann.seq Ann.leaf (Ann.seq (Ann.seq Ann.leaf (Ann.loop ⟨Nat,fun j=>j≤size.toNat,fun j=>⟨[(0,AV.one (Cl.ref 9001 ((b++(beI size.toNat n).take j).length))),(1,aJ ((n))),(7,aJ (((size - 1 - (j:Int)))))],[(9001,Bx.row 5 1 (u8s (b++(beI size.toNat n).take j)))]⟩,fun j=>size.toNat - j⟩ fun j=>Ann.leaf)) Ann.leaf))
theorem jYb (b:List Int) (n:Int) (size:Int):vcg Try.prog jX1 ⟨24,fun _=>false,List.range 0,false⟩ (zQl Try.f32) (zUU b n size) kn0 (zZq [AV.one (Cl.ref 0 b.length),AV.one (Cl.d (DV.int .i64 n)),AV.one (Cl.d (DV.int .i64 size))] [Bx.row 5 1 (u8s b)]) (zXg Try.prog ⟨24,fun _=>false,List.range 0,false⟩ Try.f32.results.toList ⟨AV.one (Cl.ref 0 ((b++beI size.toNat n).length)),[Bx.row 5 1 (u8s (b++beI size.toNat n))],false⟩) =
  (let zz0:=(dJ n=dJ n); let zz1:=fun (j:Nat)=>(wK ((8:Int)*(size - 1 - (j:Int)))); tU4 (((∃ j:Nat,(j≤size.toNat)∧(((b.length=(b++(beI size.toNat n).take j).length)∧zz0∧(dJ (wK (size - (1:Int)))=dJ (size - 1 - (j:Int)))∧True)∧((u8s b=u8s (b++(beI size.toNat n).take j))∧True)))∧∀ j:Nat,(j≤size.toNat)→tU2 ((((decide ((size - 1 - (j:Int))≥(0:Int)))=true→tU5 ((0≤IntKind.wrap .u64 (zz1 j))∧tU2 ((zQ8 1 1 ((b++(beI size.toNat n).take j).length) 1 (u8s (b++(beI size.toNat n).take j)) ([DV.int .u8 (IntKind.wrap .u8 (Int.fdiv n (2 ^ min (IntKind.wrap .u64 (zz1 j)).toNat 64)))]))∧tU4 (∃ j':Nat,(j'≤size.toNat)∧(size.toNat - j' < size.toNat - j)∧(((((b++(beI size.toNat n).take j).length)+1=(b++(beI size.toNat n).take j').length)∧zz0∧(dJ (wK ((size - 1 - (j:Int)) - (1:Int)))=dJ (size - 1 - (j':Int)))∧True)∧(((u8s (b++(beI size.toNat n).take j))++([DV.int .u8 (IntKind.wrap .u8 (Int.fdiv n (2 ^ min (IntKind.wrap .u64 (zz1 j)).toNat 64)))])=u8s (b++(beI size.toNat n).take j'))∧True))))))∧((decide ((size - 1 - (j:Int))≥(0:Int)))=false→tU2 (((((b++(beI size.toNat n).take j).length=(b++beI size.toNat n).length)∧True)∧((u8s (b++(beI size.toNat n).take j)=u8s (b++beI size.toNat n))∧True))∧zQx ⟨AV.one (Cl.ref 0 ((b++beI size.toNat n).length)),[Bx.row 5 1 (u8s (b++beI size.toNat n))],false⟩))))))):=by kernel_rfl
theorem zQo (b:List Int) (n:Int) (size:Int) (hn:1≤size∧size≤8) (hb:b.length≤900000000):AnsG Try.prog 32 0 [AV.one (Cl.ref 0 b.length),AV.one (Cl.d (DV.int .i64 n)),AV.one (Cl.d (DV.int .i64 size))] [Bx.row 5 1 (u8s b)] ⟨AV.one (Cl.ref 0 ((b++beI size.toNat n).length)),[Bx.row 5 1 (u8s (b++beI size.toNat n))],false⟩:=
  zQR (Γ:=jX1) (zUU b n size) zQq Try.func32 rfl (Nat.le_of_ble_eq_true rfl) rfl fun hwf hbx=>by
    refine Eq.mpr (jYb b n size) ?_
    delta tU2 tU4 tU5 dJ wK
    simp only [true_and,and_true,RV.d.injEq,RV.agg.injEq,RV.tup.injEq,DV.bool.injEq,DV.int.injEq,DV.sl.injEq,List.cons.injEq,forall_const,Bool.not_false,Bool.not_true,Bool.not_eq_true',Bool.not_eq_false',decide_eq_true_eq,decide_eq_false_iff_not,Int.toNat_natCast]
    obtain ⟨hn1,hn8⟩:=hn
    generalize hN:size.toNat=N at *
    have hnN:size=(N:Int):=by omega
    subst hnN
    have hN8:1≤N∧N≤8:=by omega
    clear hN hn1 hn8 hwf
    have w2:IntKind.wrap .i64 ((N:Int) - 1)=(N:Int) - 1:=IntWalk.i64_in _ ⟨by omega,by omega⟩
    refine ⟨⟨0,Nat.zero_le _,⟨by simp,by rw [w2]; omega⟩,by simp⟩,fun j hj=>⟨fun hj0=>?_,fun hj0=>?_⟩⟩
    · have hjN:j < N:=by omega
      have hi:∃ i:Nat,(i:Int)=(N:Int) - 1 - (j:Int)∧i=N - 1 - j:=⟨N - 1 - j,by omega,rfl⟩
      obtain ⟨i,hi,hi2⟩:=hi
      have hb1:=zHI (v:=n) hjN
      have hl1:((beI N n).take j).length=j:=by rw [List.length_take,zQF,Nat.min_eq_left (by omega)]
      have w3:IntKind.wrap .i64 (8*(i:Int))=8*(i:Int):=IntWalk.i64_in _ ⟨by omega,by omega⟩
      have w5:=jVZ (by omega:i < 8)
      have w4:IntKind.wrap .i64 ((i:Int) - 1)=(i:Int) - 1:=IntWalk.i64_in _ ⟨by omega,by omega⟩
      have w6:=jKp n (by omega:i < 8)
      rw [w3] at w6
      rw [← hi,w3,w5,w4,w6,hi2]
      refine ⟨by omega,⟨by rw [zX4,Nat.mul_one],rfl,?_,?_⟩,j+1,by omega,by omega,⟨?_,by omega⟩,?_⟩
      · simp only [List.length_append,hl1,maxLen]; omega
      · simp only [List.length_append,hl1]; omega
      · rw [hb1]; simp only [List.length_append,List.length_cons,List.length_nil]; omega
      · rw [hb1]; simp [u8s]
    · have:j=N:=by omega
      subst this
      rw [List.take_of_length_le (l:=beI j n) (by rw [zQF]; omega)]
      exact ⟨⟨rfl,rfl⟩,trivial⟩
def zVf (b:List Int) (p:Px):Ann:=Ann.leaf
theorem jQP (b:List Int) (p:Px):vcg Try.prog jX1 ⟨29,fun _=>false,List.range 0,false⟩ (zQl Try.f35) (zVf b p) kn0 (zZq [AV.one (Cl.ref 0 b.length),AV.agg [Cl.d (DV.int .u16 p.a),Cl.d (DV.int .u16 p.b),Cl.d (DV.int .u16 p.c),Cl.d (DV.int .u16 p.al),Cl.d (DV.int .u16 p.f)]] [Bx.row 5 1 (u8s b)]) (zXg Try.prog ⟨29,fun _=>false,List.range 0,false⟩ Try.f35.results.toList ⟨AV.one (Cl.ref 0 ((b++pxB p).length)),[Bx.row 5 1 (u8s (b++pxB p))],false⟩) =
  (let zz0:=(cJ (2)); let zz1:=(Cl.ref 0 (((iU (b))++beI 2 (wK p.a)).length)); let zz2:=[Bx.row 5 1 (u8s ((iU (b))++beI 2 (wK p.a)))]; let zz3:=(Cl.ref 0 (((iU (((iU (b))++beI 2 (wK p.a))))++beI 2 (wK p.b)).length)); let zz4:=[Bx.row 5 1 (u8s ((iU (((iU (b))++beI 2 (wK p.a))))++beI 2 (wK p.b)))]; let zz5:=(Cl.ref 0 (((iU (((iU (((iU (b))++beI 2 (wK p.a))))++beI 2 (wK p.b))))++beI 2 (wK p.c)).length)); let zz6:=[Bx.row 5 1 (u8s ((iU (((iU (((iU (b))++beI 2 (wK p.a))))++beI 2 (wK p.b))))++beI 2 (wK p.c)))]; let zz7:=(Cl.ref 0 (((iU (((iU (((iU (((iU (b))++beI 2 (wK p.a))))++beI 2 (wK p.b))))++beI 2 (wK p.c))))++beI 2 (wK p.al)).length)); let zz8:=[Bx.row 5 1 (u8s ((iU (((iU (((iU (((iU (b))++beI 2 (wK p.a))))++beI 2 (wK p.b))))++beI 2 (wK p.c))))++beI 2 (wK p.al)))]; tU4 ((0≤(0:Int)∧(0:Int) < ((3:Nat):Int))∧tU2 ((AnsG Try.prog 32 0 [AV.one (Cl.ref 0 b.length),aJ (((wK p.a))),AV.one zz0] [Bx.row 5 1 (u8s b)] ⟨AV.one zz1,zz2,false⟩)∧True∧(0≤(1:Int)∧(1:Int) < ((3:Nat):Int))∧tU2 ((AnsG Try.prog 32 0 [AV.one zz1,aJ (((wK p.b))),AV.one zz0] zz2 ⟨AV.one zz3,zz4,false⟩)∧True∧(0≤(2:Int)∧(2:Int) < ((3:Nat):Int))∧tU2 ((AnsG Try.prog 32 0 [AV.one zz3,aJ (((wK p.c))),AV.one zz0] zz4 ⟨AV.one zz5,zz6,false⟩)∧tU3 ((AnsG Try.prog 32 0 [AV.one zz5,aJ (((wK p.al))),AV.one zz0] zz6 ⟨AV.one zz7,zz8,false⟩)∧tU3 ((AnsG Try.prog 32 0 [AV.one zz7,aJ (((wK p.f))),AV.one zz0] zz8 ⟨AV.one (Cl.ref 0 (((iU (((iU (((iU (((iU (((iU (b))++beI 2 (wK p.a))))++beI 2 (wK p.b))))++beI 2 (wK p.c))))++beI 2 (wK p.al))))++beI 2 (wK p.f)).length)),[Bx.row 5 1 (u8s ((iU (((iU (((iU (((iU (((iU (b))++beI 2 (wK p.a))))++beI 2 (wK p.b))))++beI 2 (wK p.c))))++beI 2 (wK p.al))))++beI 2 (wK p.f)))],false⟩)∧True∧(true=true)∧(((((iU (((iU (((iU (((iU (((iU (b))++beI 2 (wK p.a))))++beI 2 (wK p.b))))++beI 2 (wK p.c))))++beI 2 (wK p.al))))++beI 2 (wK p.f)).length=(b++pxB p).length)∧True)∧((u8s ((iU (((iU (((iU (((iU (((iU (b))++beI 2 (wK p.a))))++beI 2 (wK p.b))))++beI 2 (wK p.c))))++beI 2 (wK p.al))))++beI 2 (wK p.f))=u8s (b++pxB p))∧True))∧zQx ⟨AV.one (Cl.ref 0 ((b++pxB p).length)),[Bx.row 5 1 (u8s (b++pxB p))],false⟩))))))):=by kernel_rfl
theorem zHM (b:List Int) (p:Px) (hb:b.length≤800000000):AnsG Try.prog 35 0 [AV.one (Cl.ref 0 b.length),AV.agg [Cl.d (DV.int .u16 p.a),Cl.d (DV.int .u16 p.b),Cl.d (DV.int .u16 p.c),Cl.d (DV.int .u16 p.al),Cl.d (DV.int .u16 p.f)]] [Bx.row 5 1 (u8s b)] ⟨AV.one (Cl.ref 0 ((b++pxB p).length)),[Bx.row 5 1 (u8s (b++pxB p))],false⟩:=
  zQR (Γ:=jX1) (zVf b p) zQq Try.func35 rfl (Nat.le_of_ble_eq_true rfl) rfl fun hwf hbx=>by
    refine Eq.mpr (jQP b p) ?_
    delta tU2 tU3 tU4 cJ wK aJ iU
    simp only [true_and,and_true,RV.d.injEq,RV.agg.injEq,RV.tup.injEq,DV.bool.injEq,DV.int.injEq,DV.sl.injEq,List.cons.injEq,forall_const,Bool.not_false,Bool.not_true,Bool.not_eq_true',Bool.not_eq_false',decide_eq_true_eq,decide_eq_false_iff_not,Int.toNat_natCast]
    simp only [AV.wfL,AV.wf,Cl.wfs,DV.wf] at hwf
    have w0:∀ n:Int,0≤n∧n≤65535→IntKind.wrap .i64 n=n:=fun n h=>IntWalk.i64_in _ ⟨by omega,by omega⟩
    obtain ⟨_,⟨h1,h2,h3,h4,h5,_⟩,_⟩:=hwf
    simp only [zQZ,w0 _ h1,w0 _ h2,w0 _ h3,w0 _ h4,w0 _ h5]
    have e:b++beI 2 (p.a)++beI 2 (p.b)++beI 2 (p.c)++beI 2 (p.al)++beI 2 (p.f)=b++pxB p:=by simp only [pxB,putL,List.flatMap_cons,List.flatMap_nil,List.append_nil,List.append_assoc]
    refine ⟨⟨by omega,by omega⟩,zQo (b) (p.a) 2 ⟨by omega,by omega⟩ (by first | omega | (simp only [List.length_append,zQF,List.length_cons,List.length_nil]; omega)),⟨by omega,by omega⟩,zQo (b++beI 2 (p.a)) (p.b) 2 ⟨by omega,by omega⟩ (by first | omega | (simp only [List.length_append,zQF,List.length_cons,List.length_nil]; omega)),⟨by omega,by omega⟩,zQo (b++beI 2 (p.a)++beI 2 (p.b)) (p.c) 2 ⟨by omega,by omega⟩ (by first | omega | (simp only [List.length_append,zQF,List.length_cons,List.length_nil]; omega)),zQo (b++beI 2 (p.a)++beI 2 (p.b)++beI 2 (p.c)) (p.al) 2 ⟨by omega,by omega⟩ (by first | omega | (simp only [List.length_append,zQF,List.length_cons,List.length_nil]; omega)),zQo (b++beI 2 (p.a)++beI 2 (p.b)++beI 2 (p.c)++beI 2 (p.al)) (p.f) 2 ⟨by omega,by omega⟩ (by first | omega | (simp only [List.length_append,zQF,List.length_cons,List.length_nil]; omega)),⟨?_,?_⟩,trivial⟩
    · rw [← e]
    · rw [← e]
end Go.Proofs.Ytlnfgagmiogkgaa
namespace Go.Proofs.Ytlnfgagmiogkgaa
open Go.RowKit
set_option linter.unusedVariables false
set_option linter.unusedSimpArgs false
end Go.Proofs.Ytlnfgagmiogkgaa
namespace Go.Proofs.Ytlnfgagmiogkgaa
open Go.RowKit
set_option linter.unusedVariables false
set_option linter.unusedSimpArgs false
attribute [local irreducible] Ans AnsO AnsG AnsN AnsI
set_option maxRecDepth 4000
theorem zHJ:∀ (l:List Int),zXZ (u8s l)
  | []=>trivial
  | a::l=>⟨⟨a,rfl⟩,zHJ l⟩
def jKz:Scr:=⟨8,⟨0,0,1,1⟩,1,1,[],[],[]⟩
theorem jJp:encS jKz=([76,67,8,0,0,0,0,0,0,0,0,0,0,0,1,0,0,0,1,0,0,0,1,0,0,0,1,0,0,0,0,0,0,0],0):=by decide
end Go.Proofs.Ytlnfgagmiogkgaa
namespace Go.Proofs.Ytlnfgagmiogkgaa
open Go.RowKit
set_option linter.unusedVariables false
set_option linter.unusedSimpArgs false
attribute [local irreducible] Ans AnsO AnsG AnsN AnsI
set_option maxRecDepth 4000
theorem jQG (l:List Int) (n:Nat) (e:Int):zQx ⟨AV.tup [AV.one (Cl.ref 0 n),AV.one (Cl.d (DV.int .i64 e))],[Bx.row 5 1 (u8s l)],true⟩:=by
  refine ⟨⟨trivial,rfl,trivial⟩,fun d hd=>?_,trivial⟩
  unfold u8s at hd
  obtain ⟨v,_,rfl⟩:=List.mem_map.1 hd
  rfl
end Go.Proofs.Ytlnfgagmiogkgaa
namespace Go.Proofs.Ytlnfgagmiogkgaa
open Go.RowKit
set_option linter.unusedVariables false
set_option linter.unusedSimpArgs false
structure Pan where
  may:FuncId→Bool
  when_:FuncId→List AV→List Bx→Option Prop
def jJh (v:Value):List PanicEntry:=[{ v,recovered:=false }]
def PanG (P:Program) (ch:List PanicEntry) (f:FuncId) (args:List AV) (ins:List Bx):Prop:=
  ∀ (w:World) (S:Nat→Prop) (ι:zQi) (vs:Array Value),zZX w S→zYR w S ι args ins vs.toList →
    Calls P f vs w fun ed w'=>ed=.panicked ch∧Bel (OwnB (zQA ins) ι) w w'
def zZL (P:Program) (Γ:Gam) (o:Oper) (s:AS):Option (FuncId × List AV × List Bx):=
  match o.op with
  | .call c=>match c.callee with
    | .value (.func f)=>match Γ.modes f,enters P f with
      | some (ms,_,_),true=>
        let xs:=c.args.toList.map s.eval
        let l0:=zXr ms xs
        let l1:=nubN (zZw ms xs)
        let bs:=l1++zJR l1 (l1.map s.bx)
        match zHq l0 bs [] (bs.map s.bx) [],jQO (zZC l0 (l0.map s.bx)) (zQJ bs) ms xs with
        | true,some ys=>some (f,ys,(bs.map s.bx).map (Bx.ren (zQJ bs)))
        | _,_=>none
      | _,_=>none
    | _=>none
  | _=>none
def zVp:Ret:=⟨.tup [],[],false⟩
theorem jVx {P:Program} {Γ:Gam} {o:Oper} {s:AS} {f:FuncId} {ys:List AV} {ins:List Bx} {ch:List PanicEntry} (h:zZL P Γ o s=some (f,ys,ins)) (hp:PanG P ch f ys ins)
    {w0:World} {S:zQP} {n:Dom} {ι:zQi} {a:Act} {w:World} (hr:RepS w0 S n s ι a w) {K:Act→World→Prop} {Q:Exit→Act→World→Prop} (hQ:∀ s' ι' w',RepS w0 S n s' ι' a w'→Q (.panic ch) a w'):o.wp P a w K Q:=by
  unfold zZL at h
  split at h
  · rename_i c hc
    obtain ⟨callee,args,ts⟩:=c
    simp only at h
    split at h
    · rename_i f'
      split at h
      · rename_i ms pin nnew hm hen
        split at h
        · rename_i ys' hok hys
          simp only [Option.some.injEq,Prod.mk.injEq] at h
          obtain ⟨rfl,rfl,rfl⟩:=h
          obtain ⟨vs,hrun,hcall⟩:=jQi (P:=P) (o:=o) (s:=s) (r:=zVp) (pin:=0) (nnew:=0) (news:=[]) (Ed:=fun _=>Ending.panicked ch)
            (fun w0 S n ι a w hr=>⟨args.map a.eval,zVs hc hen w0 S n ι a w hr,fun ι2 s2 ht hr2=>by simpa using zVe ht hr2 args.toList⟩) (fun b hb=>hb) (fun b hb=>by rw [List.mem_append]; exact .inl (zHs.2 hb)) hok hys (by simp [jXd,zVp])
            (fun w S ι vs hg hh=>(hp w S ι vs hg hh).mono fun ed w' hq=>⟨.tuple #[],ι,hq.1,by simp only [zVp,zQe]; exact ⟨_,rfl,by simp only [RepAVs]⟩,fun b=>by simp [zVp,zQA,zZB],fun b g c hl=>by simp [zVp,zQA,Bx.live] at hl,fun b b' g c c' hl=>by simp [zVp,zQA,Bx.live] at hl,fun b hb=>absurd hb (Nat.not_lt_zero b),hq.2⟩) w0 S n ι a w hr
          unfold Oper.wp
          rw [hrun,Oper.upon_enter]
          refine hcall.mono fun ed w' hq=>?_
          obtain ⟨u,ι2,rfl,h1,_⟩:=hq
          exact hQ _ ι2 w' h1
        · cases h
      · cases h
    · cases h
  · cases h
theorem zUB {P:Program} {Γ:Gam} {o:Oper} {s s':AS} (ht:∀ x∈o.op.operands,s.eval x=s'.eval x) (hb:s.bx=s'.bx):zZL P Γ o s=zZL P Γ o s':=by
  unfold zZL
  split
  · rename_i c hc
    obtain ⟨callee,args,ts⟩:=c
    simp only
    rw [hc] at ht
    simp only [Op.operands] at ht
    have hx:args.toList.map s.eval=args.toList.map s'.eval:=List.map_congr_left fun x hx=>ht x (by simp [Call.operands]; right; simpa using hx)
    rw [hx,hb]
  · rfl
section
variable (P:Program) (Γ:Gam) (X:Pan) (n:Dom) (ch:List PanicEntry) (Z:Prop)
def jVB (o:Oper):Bool:=match o.op with
  | .call c=>match c.callee with
    | .value (.func f)=>X.may f
    | _=>false
  | _=>false
def panC (o:Oper) (s:AS) (K:Prop):Prop:=match zZL P Γ o s with
  | some (f,ys,ins)=>match X.when_ f ys ins with
    | some c=>(¬ c→PanG P ch f ys ins∧Z)∧(c→K)
    | none=>False
  | none=>False
def xRun (ops:Array Oper):List Nat→Kn→AS→List (List Nat × List Nat)→(Kn→AS→List (List Nat × List Nat)→Prop)→Prop
  | [],kn,s,acc,Q=>Q kn s acc
  | i::R,kn,s,acc,Q=>
    match (ops[i]?).map (jVB X) with
    | some true=>match ops[i]? with
      | none=>False
      | some o=>match gd ops kn s o with
        | .stuck=>False
        | .yes=>panC P Γ X ch Z o s (zZ0 P Γ n ops [i] kn s acc fun kn' s' acc'=>xRun ops R kn' s' acc' Q)
        | .no=>zZ0 P Γ n ops [i] kn s acc fun kn' s' acc'=>xRun ops R kn' s' acc' Q
        | .ask t b want=>(b=want→panC P Γ X ch Z o (s.fix t want) (zZ0 P Γ n ops [i] (zYs kn (some t) (some want)) (s.fix t want) acc fun kn' s' acc'=>xRun ops R kn' s' acc' Q)) ∧
            (b=(!want)→zZ0 P Γ n ops [i] (zYs kn (some t) (some (!want))) (s.fix t (!want)) acc fun kn' s' acc'=>xRun ops R kn' s' acc' Q)
    | _=>zZ0 P Γ n ops [i] kn s acc fun kn' s' acc'=>xRun ops R kn' s' acc' Q
end
section
variable {P:Program} {Γ:Gam} {X:Pan} {n:Dom} {ch:List PanicEntry} {Z:Prop} {ops:Array Oper}
theorem jVI {kn:Kn} {s:AS} {o:Oper} (hk:KnOK kn s) (hg:gd ops kn s o=.yes):gv ops s o=some true:=by
  unfold gd at hg
  unfold gv
  cases hgu:o.guard with
  | none=>rfl
  | some jw=>
    obtain ⟨j,want⟩:=jw
    rw [hgu] at hg
    simp only at hg ⊢
    cases ht:(ops[j]?).bind (·.dst) with
    | none=>rw [ht] at hg; cases hg
    | some t=>
      rw [ht] at hg
      simp only at hg ⊢
      cases hkt:kn t with
      | some b=>
        rw [hkt] at hg
        simp only at hg
        split at hg
        · rename_i hbw
          subst hbw
          have hb:=hk t b hkt
          split
          · rename_i hs; rw [hs] at hb; simp [AV.bool?] at hb
          · rw [hb]; simp
        · cases hg
      | none=>
        rw [hkt] at hg
        simp only at hg
        split at hg <;> cases hg
theorem jVJ {kn:Kn} {s:AS} {o:Oper} {t:Nat} {b want:Bool} (hg:gd ops kn s o=.ask t b want):gv ops s o=some (b==want)∧(s.tm t).bool?=some b:=by
  have hgt:∃ j,o.guard=some (j,want)∧(ops[j]?).bind (·.dst)=some t∧(s.tm t).bool?=some b:=by
    unfold gd at hg
    cases hgu:o.guard with
    | none=>rw [hgu] at hg; cases hg
    | some jw=>
      obtain ⟨j,want'⟩:=jw
      rw [hgu] at hg
      simp only at hg
      cases ht:(ops[j]?).bind (·.dst) with
      | none=>rw [ht] at hg; cases hg
      | some t'=>
        rw [ht] at hg
        simp only at hg
        cases hkt:kn t' with
        | some b'=>rw [hkt] at hg; simp only at hg; split at hg <;> cases hg
        | none=>
          rw [hkt] at hg
          simp only at hg
          split at hg
          · cases hg
          · rename_i b' hs
            simp only [Gd.ask.injEq] at hg
            obtain ⟨rfl,rfl,rfl⟩:=hg
            exact ⟨j,rfl,ht,by rw [hs]; rfl⟩
          · rename_i b' hs
            simp only [Gd.ask.injEq] at hg
            obtain ⟨rfl,rfl,rfl⟩:=hg
            exact ⟨j,rfl,ht,by rw [hs]; rfl⟩
          · cases hg
  obtain ⟨j,h1,h2,h3⟩:=hgt
  refine ⟨?_,h3⟩
  unfold gv
  rw [h1]
  simp only [h2]
  split
  · rename_i hs; rw [hs] at h3; simp [AV.bool?] at h3
  · rw [h3]; simp
theorem jXc {F:Fence} {m:Nat} (hF:Wide F) {i:Nat} {R:List Nat} {kn:Kn} {s:AS} {acc:List (List Nat × List Nat)} {K:Kn→AS→List (List Nat × List Nat)→Prop} (h:zZ0 P Γ n ops [i] kn s acc K) (hk:KnOK kn s)
    {w0:World} {S:zQP} {ι:zQi} {a:Act} {w:World} (hr:RepS w0 S n s ι a w) {Q':Exit→Act→World→Prop}
    (hK:∀ kn' s' acc' ι' a' w',K kn' s' acc'→KnOK kn' s'→RepS w0 S n s' ι' a' w'→wpOpsIn F m P ops Q' R a' w'):wpOpsIn F m P ops Q' (i::R) a w:=by
  obtain ⟨kn',s',ts,h1,h2,h3,h4⟩:=zYd h hk
  have hruns:=h4 (fun _=>ts.getD 0 ([],[])) (fun k j hj=>by
    cases k with
    | zero=>rfl
    | succ k=>simp at hj)
  obtain ⟨vc,s1,g1,g2,_,g4⟩:=hruns
  have g4:s1=s':=g4
  subst g4
  rw [wpOpsIn_cons]
  exact zYQ hF g1 hr g2 fun ι' a' w' hr'=>hK kn' s1 _ ι' a' w' h1 h2 hr'
theorem jKg {F:Fence} {m:Nat} (hF:Wide F) {i:Nat} {o:Oper} (ho:ops[i]?=some o) {s:AS} (hgv:gv ops s o=some true) {f:FuncId} {ys:List AV} {ins:List Bx} (hh:zZL P Γ o s=some (f,ys,ins)) (hp:PanG P ch f ys ins)
    {w0:World} {S:zQP} {ι:zQi} {a:Act} {w:World} (hr:RepS w0 S n s ι a w) {Q':Exit→Act→World→Prop} (hZ:∀ s' ι' w',RepS w0 S n s' ι' a w'→Q' (.panic ch) a w') (K:Act→World→Prop):wpOpIn F m P ops Q' i K a w:=by
  unfold Go.wpOpIn
  simp only [ho]
  rw [if_pos (zUD hr hgv)]
  refine Oper.wpIn_of_wp hF (fun c hc=>?_) (jVx hh hp hr hZ)
  unfold zZL at hh
  rw [hc] at hh
  cases hh
theorem zKN {F:Fence} {m:Nat} (hF:Wide F) {w0:World} {S:zQP} {Q':Exit→Act→World→Prop} (hZ:Z→∀ s' ι' a' w',RepS w0 S n s' ι' a' w'→Q' (.panic ch) a' w'):∀ {R:List Nat} {kn:Kn} {s:AS} {acc:List (List Nat × List Nat)} {Q:Kn→AS→List (List Nat × List Nat)→Prop} {ι:zQi} {a:Act} {w:World},
    xRun P Γ X n ch Z ops R kn s acc Q→KnOK kn s→RepS w0 S n s ι a w→(∀ kn' s' acc' ι' a' w',Q kn' s' acc'→KnOK kn' s'→RepS w0 S n s' ι' a' w'→Q' .normal a' w')→wpOpsIn F m P ops Q' R a w
  | [],kn,s,acc,Q,ι,a,w,h,hk,hr,hQ=>hQ kn s acc ι a w h hk hr
  | i::R,kn,s,acc,Q,ι,a,w,h,hk,hr,hQ=>by
    have may:∀ {o:Oper} {kn1:Kn} {s1:AS},ops[i]?=some o→gv ops s1 o=some true→KnOK kn1 s1→RepS w0 S n s1 ι a w→panC P Γ X ch Z o s1 (zZ0 P Γ n ops [i] kn1 s1 acc fun kn' s' acc'=>xRun P Γ X n ch Z ops R kn' s' acc' Q)→wpOpsIn F m P ops Q' (i::R) a w:=by
      intro o kn1 s1 ho hgv hk1 hr1 h
      unfold panC at h
      split at h
      · rename_i f ys ins hh
        split at h
        · rename_i c hc
          by_cases hcc:c
          · exact jXc hF (h.2 hcc) hk1 hr1 fun kn' s' acc' ι' a' w' hq hk' hr'=>zKN hF hZ hq hk' hr' hQ
          · rw [wpOpsIn_cons]
            exact jKg hF ho hgv hh (h.1 hcc).1 hr1 (fun s' ι' w' hr'=>hZ (h.1 hcc).2 s' ι' a w' hr') _
        · exact h.elim
      · exact h.elim
    unfold xRun at h
    split at h
    · split at h
      · exact h.elim
      · rename_i o ho
        split at h
        · exact h.elim
        · rename_i hg
          exact may ho (jVI hk hg) hk hr h
        · exact jXc hF h hk hr fun kn' s' acc' ι' a' w' hq hk' hr'=>zKN hF hZ hq hk' hr' hQ
        · rename_i t b want hg
          obtain ⟨hgv,h3⟩:=jVJ hg
          by_cases hbw:b=want
          · subst hbw
            have h:=h.1 rfl
            rw [zWD h3] at h
            exact may ho (hgv.trans (by simp)) (jXg hk h3) hr h
          · have hbn:b=!want:=by cases b <;> cases want <;> simp_all
            subst hbn
            have h:=h.2 rfl
            rw [zWD h3] at h
            exact jXc hF h (jXg hk h3) hr fun kn' s' acc' ι' a' w' hq hk' hr'=>zKN hF hZ hq hk' hr' hQ
    · exact jXc hF h hk hr fun kn' s' acc' ι' a' w' hq hk' hr'=>zKN hF hZ hq hk' hr' hQ
end
def zQ3 (ops:Array Oper) (j:Nat):List Nat:=(List.range ops.size).filter fun i=>decide (i≠j) && !zXp ops j i
def jJd (ops:Array Oper) (j:Nat) (o:Oper) (τ:Nat→List Nat × List Nat):Bool:=
  o.guard.isNone && decide (j < ops.size) && ((List.range ops.size).all fun i=>(ops[i]?).any fun o=>o.after.all fun e=>!Region.binds .any e || decide (e.on < i)) &&
  (zQ3 ops j).all fun i=>decide ((τ i).2=[]) && (zXp ops i j || (ops[i]?).all fun oi=>(o.looksAt ops).all fun t=>decide (oi.dst≠some t)) && (zQ3 ops j).all fun k=>decide (i≤k) || zXp ops k i || jZx ops τ k i
section
variable {P:Program} {Γ:Gam} {X:Pan} {n:Dom} {ch:List PanicEntry} {Z:Prop} {ops:Array Oper}
theorem zH7 {τ:Nat→List Nat × List Nat} {T:List Nat}:∀ {R:List Nat} {s s':AS},Runs P Γ n ops τ R s s'→(∀ i∈R,(τ i).2=[]∧∀ o,ops[i]?=some o→∀ t∈T,o.dst≠some t)→(∀ t∈T,s.tm t=s'.tm t)∧s.bx=s'.bx
  | [],s,s',h,_=>by
    have h:s=s':=h
    subst h
    exact ⟨fun _ _=>rfl,rfl⟩
  | i::R,s,s',⟨vc,s1,h1,_,h3,h4⟩,hh=>by
    obtain ⟨o,v,wrs,bs,ho,hw,hs1⟩:=zGZ h1
    obtain ⟨e1,e2⟩:=hh i (by simp)
    rw [h3,e1] at hw
    subst hw
    have hs:s1=s.put o.dst v:=by rw [hs1]; simp [AS.setBs]
    obtain ⟨g1,g2⟩:=zH7 h4 fun k hk=>hh k (by simp [hk])
    refine ⟨fun t ht=>?_,?_⟩
    · rw [← g1 t ht,hs,zVS _ _ _ _ (e2 o ho t ht)]
    · rw [← g2,hs,zKU]
theorem jJc {F:Fence} {m:Nat} (hF:Wide F) {τ:Nat→List Nat × List Nat} {j:Nat} {oj:Oper} (hoj:ops[j]?=some oj) (hok:jJd ops j oj τ=true) {s':AS} {f:FuncId} {ys:List AV} {ins:List Bx} (hh:zZL P Γ oj s'=some (f,ys,ins)) (hp:PanG P ch f ys ins)
    {w0:World} {S:zQP} {Q':Exit→Act→World→Prop} (hZ:∀ s' ι' a' w',RepS w0 S n s' ι' a' w'→Q' (.panic ch) a' w') :
    ∀ (fuel:Nat) (listed:Array Bool) (s:AS) (ι:zQi) (a:Act) (w:World),jQV ops listed→listed.size=ops.size→listed.getD j true=false→(∀ i,i < ops.size→listed.getD i true=true→i∈zQ3 ops j)→((zQ3 ops j).filter fun i=>!listed.getD i true).length < fuel →
      Runs P Γ n ops τ ((zQ3 ops j).filter fun i=>!listed.getD i true) s s'→RepS w0 S n s ι a w→wpAnyIn F m P .any ops Q' fuel listed a w:=by
  simp only [jJd,Bool.and_eq_true,List.all_eq_true,decide_eq_true_eq] at hok
  obtain ⟨⟨⟨hgu,hjlt⟩,hedge⟩,hL⟩:=hok
  have hready:∀ (listed:Array Bool) i,i∈Region.ready .any ops listed↔i < ops.size∧listed.getD i true=false∧((ops[i]?).map (·.after.all fun e=>!Region.binds .any e || listed.getD e.on false)).getD false=true:=by
    intro listed i
    simp [Region.ready,List.mem_filter]
  have hempty:∀ listed:Array Bool,listed.size=ops.size→Region.ready .any ops listed=[]→left ops listed=[]:=by
    intro listed hsz hr
    cases hl:left ops listed with
    | nil=>rfl
    | cons i R=>
      exfalso
      have hi:i∈left ops listed:=by rw [hl]; simp
      simp only [left,List.mem_filter,List.mem_range,Bool.not_eq_true'] at hi
      have hsorted:∀ j,j < i→listed.getD j true=true:=by
        intro j hj
        cases hjv:listed.getD j true with
        | true=>rfl
        | false=>
          exfalso
          have hjm:j∈left ops listed:=by
            simp only [left,List.mem_filter,List.mem_range,Bool.not_eq_true']
            exact ⟨by omega,hjv⟩
          have hp:(left ops listed).Pairwise (· < ·):=List.Pairwise.filter _ List.pairwise_lt_range
          rw [hl] at hjm hp
          rcases List.mem_cons.1 hjm with e | hm
          · omega
          · have:=(List.pairwise_cons.1 hp).1 j hm
            omega
      have:i∈Region.ready .any ops listed:=by
        rw [hready]
        refine ⟨hi.1,hi.2,?_⟩
        have h1:=hedge i (List.mem_range.2 hi.1)
        cases ho:ops[i]? with
        | none=>rw [ho] at h1; simp at h1
        | some o=>
          rw [ho] at h1
          simp only [Option.any_some,Option.map_some,Option.getD_some] at h1 ⊢
          rw [Array.all_eq_true_iff_forall_mem] at h1 ⊢
          intro e he
          have h2:=h1 e he
          simp only [Bool.or_eq_true,Bool.not_eq_true',decide_eq_true_eq] at h2 ⊢
          rcases h2 with h2 | h2
          · exact .inl h2
          · right
            have h3:=hsorted e.on h2
            have hlt:e.on < listed.size:=by omega
            simp [Array.getD,hlt] at h3 ⊢
            exact h3
      rw [hr] at this
      simp at this
  intro fuel
  induction fuel with
  | zero=>intro listed s ι a w _ _ _ _ hl; exact absurd hl (Nat.not_lt_zero _)
  | succ fuel ih=>
    intro listed s ι a w hcl hsz hj hsub hl hruns hr
    refine ⟨fun he=>?_,fun i hi=>?_⟩
    · exfalso
      have h0:=hempty listed hsz he
      have:j∈left ops listed:=by
        simp only [left,List.mem_filter,List.mem_range,Bool.not_eq_true']
        exact ⟨hjlt,hj⟩
      rw [h0] at this
      simp at this
    · rw [hready] at hi
      obtain ⟨hlt,hnl,haft⟩:=hi
      have hbef:∀ k,zXp ops k i=true→listed.getD k false=true:=fun k hk=>by
        cases ho:ops[i]? with
        | none=>rw [ho] at haft; simp at haft
        | some o=>
          rw [ho] at haft
          simp only [Option.map_some,Option.getD_some] at haft
          exact zVd ops hcl hsz i k o ho (fun e he hb=>by
            have:=Array.all_eq_true_iff_forall_mem.1 haft e (Array.mem_toList_iff.1 he)
            simpa [hb] using this) hk
      have hnot:∀ k,k < ops.size→listed.getD k true=false→zXp ops k i=false:=fun k hk hkl=>by
        cases hb:zXp ops k i with
        | false=>rfl
        | true=>
          exfalso
          have h4:=hbef k hb
          have hlt':k < listed.size:=by omega
          simp [Array.getD,hlt'] at h4 hkl
          rw [hkl] at h4; cases h4
      by_cases hij:i=j
      · subst hij
        have hsm:=zH7 (T:=oj.looksAt ops) hruns fun k hk=>by
          obtain ⟨hk1,hk2⟩:=List.mem_filter.1 hk
          have hkl:listed.getD k true=false:=by simpa using hk2
          obtain ⟨h1,_⟩:=hL k hk1
          have hks:k < ops.size:=by
            have:=(List.mem_filter.1 hk1).1
            exact List.mem_range.1 this
          refine ⟨h1.1,fun o ho t ht=>?_⟩
          have h2:=h1.2
          rw [hnot k hks hkl,ho] at h2
          simp only [Bool.false_or,Option.all_some,List.all_eq_true,decide_eq_true_eq] at h2
          exact h2 t ht
        have hh':zZL P Γ oj s=some (f,ys,ins):=by
          rw [← hh]
          refine zUB (fun x hx=>?_) hsm.2
          cases x with
          | tmp t=>exact hsm.1 t (by simp only [Oper.looksAt,List.mem_append,List.mem_filterMap]; exact .inl ⟨_,by simpa using hx,rfl⟩)
          | const v=>rfl
          | global g=>rfl
          | func f=>rfl
        have hgv:gv ops s oj=some true:=by
          unfold gv
          cases hg:oj.guard with
          | none=>rfl
          | some x=>rw [hg] at hgu; cases hgu
        exact jKg hF hoj hgv hh' hp hr (fun s' ι' w' hr'=>hZ s' ι' a w' hr') _
      · have hiL:i∈zQ3 ops j:=by
          simp only [zQ3,List.mem_filter,List.mem_range,Bool.and_eq_true,decide_eq_true_eq,Bool.not_eq_true']
          exact ⟨hlt,hij,hnot j hjlt hj⟩
        have hm:i∈(zQ3 ops j).filter fun i=>!listed.getD i true:=List.mem_filter.2 ⟨hiL,by rw [hnl]; rfl⟩
        obtain ⟨A,B,hAB⟩:=List.append_of_mem hm
        have hpw:((zQ3 ops j).filter fun i=>!listed.getD i true).Pairwise (· < ·):=List.Pairwise.filter _ (List.Pairwise.filter _ List.pairwise_lt_range)
        rw [hAB] at hpw
        have hA:∀ k∈A,k < i∧listed.getD k true=false∧k∈zQ3 ops j:=fun k hk=>by
          have hkm:k∈(zQ3 ops j).filter fun i=>!listed.getD i true:=by rw [hAB]; simp [hk]
          obtain ⟨h1,h2⟩:=List.mem_filter.1 hkm
          exact ⟨(List.pairwise_append.1 hpw).2.2 k hk i (by simp),by simpa using h2,h1⟩
        have hind:∀ k∈A,jZx ops τ k i=true:=fun k hk=>by
          obtain ⟨h1,h2,h3⟩:=hA k hk
          have h4:=(hL i hiL).2 k h3
          rw [hnot k (List.mem_range.1 (List.mem_filter.1 h3).1) h2] at h4
          simp only [Bool.or_eq_true,decide_eq_true_eq,Bool.or_false] at h4
          rcases h4 with h4 | h4
          · omega
          · exact h4
        rw [hAB] at hruns
        obtain ⟨vc,s1,g1,g2,_,g4⟩:=jK9 hind hruns
        have hset:∀ k,k≠i→(listed.setIfInBounds i true).getD k true=listed.getD k true:=fun k e=>by
          simp only [Array.getD_eq_getD_getElem?,Array.getElem?_setIfInBounds_ne (Ne.symm e)]
        have hseti:(listed.setIfInBounds i true).getD i true=true:=by simp [Array.getD,hsz,hlt]
        have hleft:((zQ3 ops j).filter fun k=>!(listed.setIfInBounds i true).getD k true)=A++B:=by
          have hnodup:((zQ3 ops j).filter fun i=>!listed.getD i true).Nodup:=((List.nodup_range).filter _).filter _
          have e1:((zQ3 ops j).filter fun k=>!(listed.setIfInBounds i true).getD k true)=((zQ3 ops j).filter fun i=>!listed.getD i true).filter fun k=>decide (k≠i):=by
            rw [List.filter_filter]
            apply List.filter_congr
            intro k hk
            by_cases e:k=i
            · subst e; rw [hseti]; simp
            · rw [hset k e]; simp [e]
          rw [e1,hAB,List.filter_append,List.filter_cons]
          rw [hAB] at hnodup
          have hn:=List.nodup_append.1 hnodup
          have hA':A.filter (fun k=>decide (k≠i))=A:=List.filter_eq_self.2 fun k hk=>by
            have:=(hA k hk).1
            simp; omega
          have hB':B.filter (fun k=>decide (k≠i))=B:=List.filter_eq_self.2 fun k hk=>by
            have:i≠k:=fun e=>by
              have:=(List.nodup_cons.1 hn.2.1).1
              exact this (by rw [e]; exact hk)
            simp; exact Ne.symm this
          rw [hA',hB']
          simp
        refine zYQ hF g1 hr g2 fun ι' a' w' hr'=>?_
        have hcl2:jQV ops (listed.setIfInBounds i true):=by
          intro k ok hk hkl hks e he hb
          have hmono:∀ q,listed.getD q false=true→(listed.setIfInBounds i true).getD q false=true:=fun q hq=>by
            by_cases e':q=i
            · subst e'
              simp [Array.getD,hsz,hlt]
            · simp only [Array.getD_eq_getD_getElem?,Array.getElem?_setIfInBounds_ne (Ne.symm e')] at hq ⊢
              exact hq
          refine hmono _ ?_
          by_cases e':k=i
          · subst e'
            rw [hk] at haft
            simp only [Option.map_some,Option.getD_some] at haft
            have:=Array.all_eq_true_iff_forall_mem.1 haft e (Array.mem_toList_iff.1 he)
            simpa [hb] using this
          · have hkl':listed.getD k true=true:=by
              rw [hset k e'] at hkl; exact hkl
            exact hcl k ok hk hkl' (by simpa using hks) e he hb
        refine ih _ s1 ι' a' w' hcl2 (by simpa using hsz) (by rw [hset j (Ne.symm hij)]; exact hj) (fun k hk hkl=>?_) ?_ (by rw [hleft]; exact g4) hr'
        · by_cases e:k=i
          · subst e; exact hiL
          · rw [hset k e] at hkl; exact hsub k hk hkl
        · rw [hleft]
          have:((zQ3 ops j).filter fun i=>!listed.getD i true).length=(A++B).length+1:=by rw [hAB]; simp; omega
          omega
end
section
variable (P:Program) (Γ:Gam) (X:Pan) (n:Dom) (ch:List PanicEntry) (Z:Prop)
def mays (ops:Array Oper):List Nat:=(List.range ops.size).filter fun i=>(ops[i]?).any (jVB X)
def xReg (ops:Array Oper) (draw:Bool) (ann:Ann) (kn:Kn) (s:AS) (Q:zXf→Kn→AS→Prop):Prop:=
  match mays X ops with
  | []=>jJo P Γ n ops ann kn s fun kn' s' acc=>match draw with
    | true=>jXN ops (fun i=>acc.reverse.getD i ([],[]))=true∧Q .normal kn' s'
    | false=>Q .normal kn' s'
  | js=>match draw with
    | false=>xRun P Γ X n ch Z ops (List.range ops.size) kn s [] fun kn' s' _=>Q .normal kn' s'
    | true=>match js with
      | [j]=>match ops[j]? with
        | some o=>zZ0 P Γ n ops (zQ3 ops j) kn s [] fun _ s' acc=>jJd ops j o (fun i=>acc.reverse.getD (zQJ (zQ3 ops j) i) ([],[]))=true ∧
            panC P Γ X ch Z o s' (zZ0 P Γ n ops (List.range ops.size) kn s [] fun kn' s' acc=>jXN ops (fun i=>acc.reverse.getD i ([],[]))=true∧Q .normal kn' s')
        | none=>False
      | _=>False
end
section
variable {P:Program} {Γ:Gam} {X:Pan} {n:Dom} {ch:List PanicEntry} {Z:Prop} {ops:Array Oper}
theorem jKu {F:Fence} (hF:Wide F) {m id:Nat} {draw:Bool} {ann:Ann} {kn:Kn} {s:AS} {Q:zXf→Kn→AS→Prop} (hm:P.follows .mixedOrders=true) (h:xReg P Γ X n ch Z ops draw ann kn s Q) (hk:KnOK kn s) {w0:World} {S:zQP} {ι:zQi} {a:Act} {w:World}
    (hr:RepS w0 S n s ι a w) {Q':Exit→Act→World→Prop} (hZ:Z→∀ s' ι' a' w',RepS w0 S n s' ι' a' w'→Q' (.panic ch) a' w')
    (hQ:∀ e kn' s' ι' a' w',Q e kn' s'→KnOK kn' s'→RepS w0 S n s' ι' a' w'→Q' e.exit_ a' w'):(Code.region id ops draw).wpIn F m P Q' a w:=by
  unfold xReg at h
  split at h
  · exact zG2 hF hm (zH1 h) hk hr hQ
  · split at h
    · exact wpIn_region (zKN hF hZ h hk hr fun kn' s' _ ι' a' w' hq hk' hr'=>hQ .normal kn' s' ι' a' w' hq hk' hr')
    · split at h
      · rename_i _ j _
        split at h
        · rename_i o ho
          obtain ⟨kn',s',ts,h1,h2,h3,h4⟩:=zYd h hk
          obtain ⟨hok,h1⟩:=h1
          unfold panC at h1
          split at h1
          · rename_i f ys ins hh
            split at h1
            · rename_i c hc
              by_cases hcc:c
              · exact zG2 (draw:=true) hF hm (h1.2 hcc) hk hr hQ
              · have hnd:(zQ3 ops j).Nodup:=(List.nodup_range).filter _
                have hruns:=h4 (fun i=>(ts.reverse++[]).reverse.getD (zQJ (zQ3 ops j) i) ([],[])) fun k i hi=>by
                  obtain ⟨hkl,hki⟩:=List.getElem?_eq_some_iff.1 hi
                  have:zQJ (zQ3 ops j) i=k:=by
                    rw [← hki,← zVz _ 0 hkl]
                    exact zJZ hnd hkl
                  simp [this]
                refine wpIn_region_any hm ?_
                have hr1:RepS w0 S n s ι a { w with drawn:=w.drawn+1 }:=hr.quiet ⟨hr.bel.os,hr.bel.tape,hr.bel.output,hr.bel.size,hr.bel.block⟩ rfl
                have hjs:j < ops.size:=(Array.getElem?_eq_some_iff.1 ho).1
                have hrep:∀ i,i < ops.size→(Array.replicate ops.size false).getD i true=false:=fun i hi=>by simp [Array.getD,hi]
                have hfil:((zQ3 ops j).filter fun i=>!(Array.replicate ops.size false).getD i true)=zQ3 ops j:=by
                  rw [List.filter_eq_self]
                  intro i hi
                  rw [hrep i (List.mem_range.1 (List.mem_filter.1 hi).1)]
                  rfl
                refine jJc hF ho hok hh (h1.1 hcc).1 (hZ (h1.1 hcc).2) ops.size _ s ι a _ (fun i o ho hl hs=>?_) (by simp) (hrep j hjs) (fun i hi hl=>?_) ?_ (by rw [hfil]; exact hruns) hr1
                · have:i < ops.size:=by simpa using hs
                  simp [Array.getD,this] at hl
                · rw [hrep i hi] at hl; cases hl
                · rw [hfil]
                  have:(zQ3 ops j).length < (List.range ops.size).length:=List.length_filter_lt_length_iff_exists.2 ⟨j,List.mem_range.2 hjs,by simp⟩
                  simpa using this
            · exact h1.elim
          · exact h1.elim
        · exact h.elim
      · exact h.elim
end
def xcg (P:Program) (Γ:Gam) (X:Pan) (ch:List PanicEntry) (Z:Prop):Dom→Code→Ann→Kn→AS→(zXf→Kn→AS→Prop)→Prop
  | _,.skip,_,kn,s,Q=>Q .normal kn s
  | _,.label _,_,kn,s,Q=>Q .normal kn s
  | _,.exit id,_,kn,s,Q=>Q (.exit id) kn s
  | _,.ret,_,kn,s,Q=>Q .ret kn s
  | n,.region _ ops draw,ann,kn,s,Q=>xReg P Γ X n ch Z ops draw ann kn s Q
  | n,.seq x y,ann,kn,s,Q=>match ann with
    | .cut I a b=>xcg P Γ X ch Z n x a kn s (fun e kn' s'=>match e with
        | .normal=>∃ z,I.ok z∧fits n s' (I.st z)
        | e=>Q e kn' s')∧∀ z,I.ok z→xcg P Γ X ch Z n y (b z) kn0 (I.st z).as Q
    | .ice bs ts a b=>xcg P Γ X ch Z n x a kn s fun e kn' s'=>match e with
        | .normal=>xcg P Γ X ch Z n y b kn' (melts (ices s' bs) ts) Q
        | e=>Q e kn' s'
    | ann=>xcg P Γ X ch Z n x ann.l kn s fun e kn' s'=>match e with
        | .normal=>xcg P Γ X ch Z n y ann.r kn' s' Q
        | e=>Q e kn' s'
  | n,.cond c x y,ann,kn,s,Q=>match ann with
    | .sure b a=>match (s.eval c).bool? with
      | some b'=>b'=b∧match b with
        | true=>xcg P Γ X ch Z n x a kn s Q
        | false=>xcg P Γ X ch Z n y a kn s Q
      | none=>False
    | ann=>match kx kn c with
      | some true=>xcg P Γ X ch Z n x ann.l kn s Q
      | some false=>xcg P Γ X ch Z n y ann.r kn s Q
      | none=>match (s.eval c).bool? with
        | some b=>(b=true→xcg P Γ X ch Z n x ann.l kn s Q)∧(b=false→xcg P Γ X ch Z n y ann.r kn s Q)
        | none=>False
  | n,.block id c,ann,kn,s,Q=>xcg P Γ X ch Z n c ann kn s fun e kn' s'=>match e with
    | .exit id'=>match decide (id'=id) with
      | true=>Q .normal kn' s'
      | false=>Q (.exit id') kn' s'
    | e=>Q e kn' s'
  | n,.loop c,ann,kn,s,Q=>match ann with
    | .loop I a=>(∃ z,I.ok z∧fits n s (I.st z))∧∀ z,I.ok z→xcg P Γ X ch Z n c (a z) kn0 (I.st z).as fun e kn' s'=>match e with
        | .normal=>∃ y,I.ok y∧I.μ y < I.μ z∧fits n s' (I.st y)
        | e=>Q e kn' s'
    | .link I a next=>zUk n (.link I a next) s∧zK1 n (xcg P Γ X ch Z n c) Q (.link I a next)
    | _=>False
  | _,_,_,_,_,_=>False
section
variable {P:Program} {Γ:Gam} {X:Pan} {ch:List PanicEntry} {Z:Prop}
def jKs (P:Program) (ch:List PanicEntry) (Z:Prop) (f:VCF) (c:Code):Prop:=
  ∀ (n:Dom) (ann:Ann) (kn:Kn) (s:AS) (Q:zXf→Kn→AS→Prop),f n ann kn s Q→KnOK kn s→∀ (F:Fence),Wide F→(n.round=false→F=Fence.wide) →
    ∀ (w0:World) (S:zQP) (ι:zQi) (a:Act) (w:World),RepS w0 S n s ι a w→∀ (m:Nat) (Q':Exit→Act→World→Prop),
    (Z→∀ s' ι' a' w',RepS w0 S n s' ι' a' w'→Q' (.panic ch) a' w') →
    (∀ e kn' s' ι' a' w',Q e kn' s'→KnOK kn' s'→RepS w0 S n s' ι' a' w'→Q' e.exit_ a' w')→c.wpIn F m P Q' a w
theorem jZu {f:VCF} {c:Code} (ih:jKs P ch Z f c) {n:Dom} {ann:Ann} {s:AS} {Q:zXf→Kn→AS→Prop} (h1:zUk n ann s) (h2:zK1 n (f n) Q ann) {F:Fence} (hF:Wide F) (hR:n.round=false→F=Fence.wide)
    {w0:World} {S:zQP} {ι:zQi} {a:Act} {w:World} (hr:RepS w0 S n s ι a w) {m:Nat} {Q':Exit→Act→World→Prop} (hZ:Z→∀ s' ι' a' w',RepS w0 S n s' ι' a' w'→Q' (.panic ch) a' w')
    (hQ:∀ e kn' s' ι' a' w',Q e kn' s'→KnOK kn' s'→RepS w0 S n s' ι' a' w'→Q' e.exit_ a' w'):(Code.loop c).wpIn F m P Q' a w:=by
  refine wpIn_loop_ghost (fun k a w=>∃ ann s ι,zYM ann=k∧zUk n ann s∧zK1 n (f n) Q ann∧RepS w0 S n s ι a w) (zYM ann) ⟨ann,s,ι,rfl,h1,h2,hr⟩ fun k a w hI=>?_
  obtain ⟨ann,s,ι,rfl,h1,h2,hr⟩:=hI
  cases ann <;> first | exact h1.elim | skip
  rename_i I b next
  obtain ⟨z,hz,hf⟩:=h1
  obtain ⟨ι2,hr2⟩:=hr.fit hf
  simp only [zK1] at h2
  refine ih n (b z) kn0 _ _ (h2.1 z hz) (zYZ _) F hF hR w0 S ι2 a w hr2 m _ (fun hz s' ι' a' w' hr'=>hZ hz s' ι' a' w' hr') fun e kn' s' ι' a' w' hq hk' hr'=>?_
  cases e with
  | normal=>exact ⟨zYM next,by simp [zYM],next,s',ι',rfl,hq,h2.2,hr'⟩
  | exit id=>exact hQ (.exit id) kn' s' ι' a' w' hq hk' hr'
  | ret=>exact hQ .ret kn' s' ι' a' w' hq hk' hr'
theorem zQ2 (hm:P.follows .mixedOrders=true):∀ (c:Code),jKs P ch Z (fun n=>xcg P Γ X ch Z n c) c
  | .skip,n,_,kn,s,Q,h,hk,F,hF,hR,w0,S,ι,a,w,hr,m,Q',hZ,hQ=>wpIn_skip (hQ .normal kn s ι a w h hk hr)
  | .label _,n,_,kn,s,Q,h,hk,F,hF,hR,w0,S,ι,a,w,hr,m,Q',hZ,hQ=>wpIn_label (hQ .normal kn s ι a w h hk hr)
  | .exit id,n,_,kn,s,Q,h,hk,F,hF,hR,w0,S,ι,a,w,hr,m,Q',hZ,hQ=>wpIn_exit (hQ (.exit id) kn s ι a w h hk hr)
  | .ret,n,_,kn,s,Q,h,hk,F,hF,hR,w0,S,ι,a,w,hr,m,Q',hZ,hQ=>wpIn_ret (hQ .ret kn s ι a w h hk hr)
  | .region id ops draw,n,_,kn,s,Q,h,hk,F,hF,hR,w0,S,ι,a,w,hr,m,Q',hZ,hQ=>jKu hF hm h hk hr hZ hQ
  | .seq x y,n,ann,kn,s,Q,h,hk,F,hF,hR,w0,S,ι,a,w,hr,m,Q',hZ,hQ=>by
    simp only [xcg] at h
    refine wpIn_seq ?_
    split at h
    · rename_i I a' b
      obtain ⟨h1,h2⟩:=h
      refine zQ2 hm x n a' kn s _ h1 hk F hF hR w0 S ι a w hr m _ (fun hz s' ι' a' w' hr'=>hZ hz s' ι' a' w' hr') fun e kn' s' ι' a' w' hq hk' hr'=>?_
      cases e with
      | normal=>
        obtain ⟨z,hz,hf⟩:=hq
        obtain ⟨ι2,hr2⟩:=hr'.fit hf
        exact zQ2 hm y n (b z) kn0 _ Q (h2 z hz) (zYZ _) F hF hR w0 S ι2 a' w' hr2 m Q' hZ hQ
      | exit id=>exact hQ (.exit id) kn' s' ι' a' w' hq hk' hr'
      | ret=>exact hQ .ret kn' s' ι' a' w' hq hk' hr'
    · rename_i bs ts a' b
      refine zQ2 hm x n a' kn s _ h hk F hF hR w0 S ι a w hr m _ (fun hz s' ι' a' w' hr'=>hZ hz s' ι' a' w' hr') fun e kn' s' ι' a' w' hq hk' hr'=>?_
      cases e with
      | normal=>exact zQ2 hm y n b kn' (Go.Proofs.Ytlnfgagmiogkgaa.melts (Go.Proofs.Ytlnfgagmiogkgaa.ices s' bs) ts) Q hq (zHt ts fun t b hb=>by rw [jZC]; exact hk' t b hb) F hF hR w0 S ι' a' w' ((hr'.ices bs).melts ts) m Q' hZ hQ
      | exit id=>exact hQ (.exit id) kn' s' ι' a' w' hq hk' hr'
      | ret=>exact hQ .ret kn' s' ι' a' w' hq hk' hr'
    · refine zQ2 hm x n ann.l kn s _ h hk F hF hR w0 S ι a w hr m _ (fun hz s' ι' a' w' hr'=>hZ hz s' ι' a' w' hr') fun e kn' s' ι' a' w' hq hk' hr'=>?_
      cases e with
      | normal=>exact zQ2 hm y n ann.r kn' s' Q hq hk' F hF hR w0 S ι' a' w' hr' m Q' hZ hQ
      | exit id=>exact hQ (.exit id) kn' s' ι' a' w' hq hk' hr'
      | ret=>exact hQ .ret kn' s' ι' a' w' hq hk' hr'
  | .cond c x y,n,ann,kn,s,Q,h,hk,F,hF,hR,w0,S,ι,a,w,hr,m,Q',hZ,hQ=>by
    simp only [xcg] at h
    split at h
    · rename_i b a'
      split at h
      · rename_i b' hc
        obtain ⟨rfl,h⟩:=h
        cases b' with
        | true=>exact wpIn_cond_true (zZM (hr.eval c) hc) (zQ2 hm x n a' kn s Q h hk F hF hR w0 S ι a w hr m Q' hZ hQ)
        | false=>exact wpIn_cond_false (zZM (hr.eval c) hc) (zQ2 hm y n a' kn s Q h hk F hF hR w0 S ι a w hr m Q' hZ hQ)
      · exact h.elim
    split at h
    · rename_i hc
      exact wpIn_cond_true (zZM (hr.eval c) (zUn hk hc)) (zQ2 hm x n ann.l kn s Q h hk F hF hR w0 S ι a w hr m Q' hZ hQ)
    · rename_i hc
      exact wpIn_cond_false (zZM (hr.eval c) (zUn hk hc)) (zQ2 hm y n ann.r kn s Q h hk F hF hR w0 S ι a w hr m Q' hZ hQ)
    · split at h
      · rename_i b hc
        exact wpIn_cond_split (zZM (hr.eval c) hc) (fun hb=>zQ2 hm x n ann.l kn s Q (h.1 hb) hk F hF hR w0 S ι a w hr m Q' hZ hQ) (fun hb=>zQ2 hm y n ann.r kn s Q (h.2 hb) hk F hF hR w0 S ι a w hr m Q' hZ hQ)
      · exact h.elim
  | .block id c,n,ann,kn,s,Q,h,hk,F,hF,hR,w0,S,ι,a,w,hr,m,Q',hZ,hQ=>by
    simp only [xcg] at h
    refine wpIn_block (zQ2 hm c n ann kn s _ h hk F hF hR w0 S ι a w hr m _ (fun hz s' ι' a' w' hr'=>hZ hz s' ι' a' w' hr') fun e kn' s' ι' a' w' hq hk' hr'=>?_)
    cases e with
    | normal=>exact hQ .normal kn' s' ι' a' w' hq hk' hr'
    | exit id'=>
      simp only at hq
      simp only [zXf.exit_,Exit.inBlock]
      by_cases e:id'=id
      · rw [if_pos e]
        simp only [e,decide_true] at hq
        exact hQ .normal kn' s' ι' a' w' hq hk' hr'
      · rw [if_neg e]
        simp only [e,decide_false] at hq
        exact hQ (.exit id') kn' s' ι' a' w' hq hk' hr'
    | ret=>exact hQ .ret kn' s' ι' a' w' hq hk' hr'
  | .loop c,n,ann,kn,s,Q,h,hk,F,hF,hR,w0,S,ι,a,w,hr,m,Q',hZ,hQ=>by
    simp only [xcg] at h
    split at h
    · rename_i I a'
      obtain ⟨⟨z,hz,hf⟩,h2⟩:=h
      obtain ⟨ι2,hr2⟩:=hr.fit hf
      refine wpIn_loop_ghost (fun m a w=>∃ z ι,I.ok z∧I.μ z=m∧RepS w0 S n (I.st z).as ι a w) (I.μ z) ⟨z,ι2,hz,rfl,hr2⟩ fun k a w hI=>?_
      obtain ⟨z,ι,hz,rfl,hr⟩:=hI
      refine zQ2 hm c n (a' z) kn0 _ _ (h2 z hz) (zYZ _) F hF hR w0 S ι a w hr m _ (fun hz s' ι' a' w' hr'=>hZ hz s' ι' a' w' hr') fun e kn' s' ι' a' w' hq hk' hr'=>?_
      cases e with
      | normal=>
        obtain ⟨y,hy,hlt,hf⟩:=hq
        obtain ⟨ι3,hr3⟩:=hr'.fit hf
        exact ⟨I.μ y,hlt,y,ι3,hy,rfl,hr3⟩
      | exit id=>exact hQ (.exit id) kn' s' ι' a' w' hq hk' hr'
      | ret=>exact hQ .ret kn' s' ι' a' w' hq hk' hr'
    · exact jZu (f:=fun n=>xcg P Γ X ch Z n c) (zQ2 hm c) h.1 h.2 hF hR hr hZ hQ
    · exact h.elim
  | .rangeFunc _ _ _ _,_,_,_,_,_,h,_,_,_,_,_,_,_,_,_,_,_,_,_,_=>by simp only [xcg] at h
  | .scope _,_,_,_,_,_,h,_,_,_,_,_,_,_,_,_,_,_,_,_,_=>by simp only [xcg] at h
  | .goto _,_,_,_,_,_,h,_,_,_,_,_,_,_,_,_,_,_,_,_,_=>by simp only [xcg] at h
  | .refuse _,_,_,_,_,_,h,_,_,_,_,_,_,_,_,_,_,_,_,_,_=>by simp only [xcg] at h
end
theorem zGL {F:Fence} {m:Nat} {P:Program} {fn:Func} {R:Ending→World→Prop} {ch:List PanicEntry} {w0:World} {n:Dom} {s:AS} {ι:zQi} {tmps:Array Value}:∀ (ds:List Deferred) (S:zQP) (w:World),RepS w0 S n s ι { tmps:=tmps,defers:=ds } w→S.ref.heap.size≤w0.heap.size →
    (∀ w',RepS w0 S n s ι { tmps:=tmps,defers:=[] } w'→R (.panicked ch) w')→LeavesInM F m P fn tmps R ds (.panicking ch) w
  | [],S,w,h,_,hR=>hR w h
  | d::ds,S,w,h,href,hR=>by
    obtain ⟨D,rfl,h1,h2⟩:=h.marks.2 d (by simp)
    have hlt:D < w.heap.size:=(Array.getElem?_eq_some_iff.1 h2).1
    refine ⟨by simp,.inl ⟨D,w.putObj D (.deferred none),rfl,run_takeDeferred h2,zGL ds S _ ?_ href hR⟩⟩
    have hg:=grownBy_putObj' w D (.deferred none)
    refine h.turn hg (fun r e=>by cases e; exact ⟨h1,_,h2,rfl⟩) (ds:=ds) ⟨(List.pairwise_cons.1 h.marks.1).2,fun d' hd'=>?_⟩ (ref:=S.ref) (zJQ h.oth hg (fun r e=>by cases e; exact h1) href)
    obtain ⟨D',rfl,q1,q2⟩:=h.marks.2 d' (by simp [hd'])
    have hne:D'≠D:=fun e=>(List.pairwise_cons.1 h.marks.1).1 _ hd' (by rw [e])
    exact ⟨D',rfl,q1,(World.putObj_heap_other hne).trans q2⟩
theorem zZP {P:Program} {Γ:Gam} {X:Pan} {ch:List PanicEntry} {f:FuncId} {fn:Func} {pin:Nat} {args:List AV} {ins:List Bx} {r:Ret} {c:Prop} (ann:Ann) (hm:P.follows .mixedOrders=true) (hf:P.funcs[f]?=some fn) (hb:fn.body.isSome=true) (hl:args.length≤fn.ntmps)
    (hp:(List.range pin).all (fun b=>(zQA ins b).known)=true)
    (h:AV.wfL args→Bx.wfL ins→xcg P Γ X ch (¬ c) ⟨fn.ntmps,fun _=>false,List.range pin,false⟩ (zQl fn) ann kn0 (zZq args ins) fun e kn s=>c∧zXg P ⟨fn.ntmps,fun _=>false,List.range pin,false⟩ fn.results.toList r e kn s) :
    (c→AnsG P f pin args ins r)∧(¬ c→PanG P ch f args ins):=by
  have key:∀ (w:World) (S:Nat→Prop) (ι:zQi) (vs:Array Value),zZX w S→zYR w S ι args ins vs.toList →
      Calls P f vs w fun ed w'=>(c∧∃ v ι',ed=.returned v∧jJn w S ι pin ins r w' ι' v)∨(¬ c∧ed=.panicked ch∧Bel (OwnB (zQA ins) ι) w w'):=by
    intro w S ι vs hgl hh
    have hv:=h hh.args.wf (jYe fun b=>(hh.bx b).wf)
    have hr:=zGs (fn:=fn) hl hp hgl hh
    refine callsIn_wide.1 (callsIn_of_wp_marks (F:=Fence.wide) (n:=1) hf (jQN hb) trivial ?_)
    refine zQ2 hm (zQl fn) _ ann kn0 _ _ hv (zYZ _) Fence.wide (.inl rfl) (fun _=>rfl) w _ ι _ w hr 1 _ (fun hz s' ι' a' w' hr'=>?_) fun e kn' s' ι' a' w' hq hk' hr'=>?_
    · exact zGL a'.defers _ w' hr' (Nat.le_refl _) fun w'' h''=>.inr ⟨hz,rfl,h''.bel⟩
    · have done:∀ e',zXg P ⟨fn.ntmps,fun _=>false,List.range pin,false⟩ fn.results.toList r e' kn' s'→(e'=.normal∨e'=.ret)→LeavesInM Fence.wide 1 P fn a'.tmps (fun ed w'=>(c∧∃ v ι',ed=.returned v∧jJn w S ι pin ins r w' ι' v)∨(¬ c∧ed=.panicked ch∧Bel (OwnB (zQA ins) ι) w w')) a'.defers .returning w':=fun e' hq' he'=>
        zUl a'.defers _ w' hr' (Nat.le_refl _) fun w'' h''=>by
          have hq2:zXg P ⟨fn.ntmps,fun _=>false,List.range pin,false⟩ fn.results.toList r .ret kn' s':=by rcases he' with rfl | rfl <;> exact hq'
          obtain ⟨v,h1,v2,ι2,h2,h3⟩:=zVt h'' hq2
          exact ⟨v,h1,.inl ⟨hq.1,v2,ι2,h2,h3⟩⟩
      cases e with
      | normal=>exact done .normal hq.2 (.inl rfl)
      | ret=>exact done .ret hq.2 (.inr rfl)
      | exit id=>exact hq.2.elim
  refine ⟨fun hc w S ι vs hgl hh=>(key w S ι vs hgl hh).mono fun ed w' hq=>?_,fun hc w S ι vs hgl hh=>(key w S ι vs hgl hh).mono fun ed w' hq=>?_⟩
  · rcases hq with ⟨_,h⟩ | ⟨h,_⟩
    · exact h
    · exact absurd hc h
  · rcases hq with ⟨h,_⟩ | ⟨_,h⟩
    · exact absurd h hc
    · exact h
def chM:List PanicEntry:=jJh (.iface 94 (.agg #[]))
set_option maxRecDepth 100000 in
theorem zJY (w:World):Calls Try.prog 45 #[.bool true] w fun e w'=>e=.returned (.tuple #[])∧w'=w:=by
  go_enter Try.func45,Try.ntmps45
  go_wp2
  simp [bodyPost,Leaves,settle,results,Try.results45,go_sem]
set_option maxRecDepth 100000 in
theorem zVb (w:World):Calls Try.prog 45 #[.bool false] w fun e w'=>e=.panicked chM∧w'=w:=by
  go_enter Try.func45,Try.ntmps45
  go_wp2
  simp [bodyPost,Leaves,chM,jJh]
theorem zZh (b:Bool):((b=true)→AnsG Try.prog 45 0 [AV.one (Cl.d (DV.bool b))] [] ⟨AV.tup [],[],false⟩)∧((¬ (b=true))→PanG Try.prog chM 45 [AV.one (Cl.d (DV.bool b))] []):=by
  have hv:∀ {w:World} {S:Nat→Prop} {ι:zQi} {vs:Array Value},zYR w S ι [AV.one (Cl.d (DV.bool b))] [] vs.toList→vs=#[.bool b]:=fun {w S ι vs} hh=>by
    obtain ⟨l⟩:=vs
    have ha:=hh.args
    match l,ha with
    | [v],ha=>
      simp only [RepAVs,zQe,zQu,RepD,and_true] at ha
      rw [ha]
  refine ⟨fun hb w S ι vs _ hh=>?_,fun hb w S ι vs _ hh=>?_⟩
  · rw [hv hh,hb]
    refine (zJY w).mono ?_
    rintro e w' ⟨rfl,rfl⟩
    exact ⟨.tuple #[],ι,rfl,by simp only [zQe]; exact ⟨_,rfl,by simp only [RepAVs]⟩,fun b=>by simp [zQA,zZB],fun b g c hl=>by simp [zQA,Bx.live] at hl,fun b b' g c c' hl=>by simp [zQA,Bx.live] at hl,fun b hb=>absurd hb (Nat.not_lt_zero b),Bel.refl _ _⟩
  · have hb:b=false:=by simpa using hb
    rw [hv hh,hb]
    refine (zVb w).mono ?_
    rintro e w' ⟨rfl,rfl⟩
    exact ⟨rfl,Bel.refl _ _⟩
end Go.Proofs.Ytlnfgagmiogkgaa
