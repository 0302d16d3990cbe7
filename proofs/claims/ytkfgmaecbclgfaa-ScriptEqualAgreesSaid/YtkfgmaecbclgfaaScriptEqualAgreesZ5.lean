/-
  Part 5 of what ScriptEqualAgrees rests on.
-/
import Derived.Test.YtkfgmaecbclgfaaScriptEqualAgreesZ3
import Derived.Test.YtkfgmaecbclgfaaScriptEqualAgreesZ4
import Derived.Tactics
import Derived.Tactics2
import Derived.Defers
import Derived.Recover
import Derived.WalkSmall
import Derived.Laws.Pointers
/-
  The generator's images, as data.
-/
namespace Go.Proofs.Ytkfgmaecbclgfaa
open Go.RowKit
set_option linter.unusedVariables false
set_option linter.unusedSimpArgs false
attribute [local irreducible] Ans AnsO AnsG AnsN AnsI

set_option maxRecDepth 4000
def gamSb : Gam where
 pure := fun f xs =>
  if f = 16 then (match xs with | [.d (.int _ n), .d (.int _ k)] => some (RV.d (DV.int .i64 (modS n k))) | _ => none) else
  if f = 60 then (match xs with | [] => some (RV.tup [RV.tup [RV.d (DV.int .i64 37), RV.d (DV.int .i64 5)]]) | [.agg [.int _ mood, .sl L xs], .d (.int _ n), .d (.int _ most)] => some (RV.d (DV.sl n.toNat (pxs (gPixels mood L xs most n.toNat)))) | _ => none) else
  if f = 27 then (match xs with | [.d (.int _ w), .d (.int _ h), .agg [.int _ c0, .int _ c1, .int _ c2, .int _ ca, .int _ cf]] => some (RV.agg [DV.int .i64 ((solidIm w h ⟨c0, c1, c2, ca, cf⟩).w), DV.int .i64 ((solidIm w h ⟨c0, c1, c2, ca, cf⟩).h), DV.bool ((solidIm w h ⟨c0, c1, c2, ca, cf⟩).so), DV.int .u16 (((solidIm w h ⟨c0, c1, c2, ca, cf⟩).c).a), DV.int .u16 (((solidIm w h ⟨c0, c1, c2, ca, cf⟩).c).b), DV.int .u16 (((solidIm w h ⟨c0, c1, c2, ca, cf⟩).c).c), DV.int .u16 (((solidIm w h ⟨c0, c1, c2, ca, cf⟩).c).al), DV.int .u16 (((solidIm w h ⟨c0, c1, c2, ca, cf⟩).c).f), DV.int .i64 (((solidIm w h ⟨c0, c1, c2, ca, cf⟩).p0).w), DV.int .i64 (((solidIm w h ⟨c0, c1, c2, ca, cf⟩).p0).h), DV.int .i64 (((solidIm w h ⟨c0, c1, c2, ca, cf⟩).p0).s), DV.sl (((solidIm w h ⟨c0, c1, c2, ca, cf⟩).p0).n) (((solidIm w h ⟨c0, c1, c2, ca, cf⟩).p0).xs), DV.int .i64 (((solidIm w h ⟨c0, c1, c2, ca, cf⟩).p1).w), DV.int .i64 (((solidIm w h ⟨c0, c1, c2, ca, cf⟩).p1).h), DV.int .i64 (((solidIm w h ⟨c0, c1, c2, ca, cf⟩).p1).s), DV.sl (((solidIm w h ⟨c0, c1, c2, ca, cf⟩).p1).n) (((solidIm w h ⟨c0, c1, c2, ca, cf⟩).p1).xs), DV.int .i64 (((solidIm w h ⟨c0, c1, c2, ca, cf⟩).p2).w), DV.int .i64 (((solidIm w h ⟨c0, c1, c2, ca, cf⟩).p2).h), DV.int .i64 (((solidIm w h ⟨c0, c1, c2, ca, cf⟩).p2).s), DV.sl (((solidIm w h ⟨c0, c1, c2, ca, cf⟩).p2).n) (((solidIm w h ⟨c0, c1, c2, ca, cf⟩).p2).xs), DV.int .i64 (((solidIm w h ⟨c0, c1, c2, ca, cf⟩).p3).w), DV.int .i64 (((solidIm w h ⟨c0, c1, c2, ca, cf⟩).p3).h), DV.int .i64 (((solidIm w h ⟨c0, c1, c2, ca, cf⟩).p3).s), DV.sl (((solidIm w h ⟨c0, c1, c2, ca, cf⟩).p3).n) (((solidIm w h ⟨c0, c1, c2, ca, cf⟩).p3).xs), DV.int .i64 (((solidIm w h ⟨c0, c1, c2, ca, cf⟩).p4).w), DV.int .i64 (((solidIm w h ⟨c0, c1, c2, ca, cf⟩).p4).h), DV.int .i64 (((solidIm w h ⟨c0, c1, c2, ca, cf⟩).p4).s), DV.sl (((solidIm w h ⟨c0, c1, c2, ca, cf⟩).p4).n) (((solidIm w h ⟨c0, c1, c2, ca, cf⟩).p4).xs)]) | _ => none) else
  none
 modes := fun f =>
  if f = 61 then some ([true, true, true], 0, 5) else
  none
 proc := fun f xs bs =>
  if f = 61 then (match xs, bs with | [AV.one (Cl.d (DV.int _ w)), AV.one (Cl.d (DV.int _ h)), AV.one (Cl.d (DV.sl n xs))], [] => some ⟨AV.tup [AV.agg [Cl.d (DV.int .i64 ((imOf w h (toPxs xs)).w)), Cl.d (DV.int .i64 ((imOf w h (toPxs xs)).h)), Cl.d (DV.bool ((imOf w h (toPxs xs)).so)), Cl.d (DV.int .u16 ((imOf w h (toPxs xs)).c.a)), Cl.d (DV.int .u16 ((imOf w h (toPxs xs)).c.b)), Cl.d (DV.int .u16 ((imOf w h (toPxs xs)).c.c)), Cl.d (DV.int .u16 ((imOf w h (toPxs xs)).c.al)), Cl.d (DV.int .u16 ((imOf w h (toPxs xs)).c.f)), Cl.d (DV.int .i64 ((imOf w h (toPxs xs)).p0.w)), Cl.d (DV.int .i64 ((imOf w h (toPxs xs)).p0.h)), Cl.d (DV.int .i64 ((imOf w h (toPxs xs)).p0.s)), Cl.ref 0 ((imOf w h (toPxs xs)).p0.n), Cl.d (DV.int .i64 ((imOf w h (toPxs xs)).p1.w)), Cl.d (DV.int .i64 ((imOf w h (toPxs xs)).p1.h)), Cl.d (DV.int .i64 ((imOf w h (toPxs xs)).p1.s)), Cl.ref 1 ((imOf w h (toPxs xs)).p1.n), Cl.d (DV.int .i64 ((imOf w h (toPxs xs)).p2.w)), Cl.d (DV.int .i64 ((imOf w h (toPxs xs)).p2.h)), Cl.d (DV.int .i64 ((imOf w h (toPxs xs)).p2.s)), Cl.ref 2 ((imOf w h (toPxs xs)).p2.n), Cl.d (DV.int .i64 ((imOf w h (toPxs xs)).p3.w)), Cl.d (DV.int .i64 ((imOf w h (toPxs xs)).p3.h)), Cl.d (DV.int .i64 ((imOf w h (toPxs xs)).p3.s)), Cl.ref 3 ((imOf w h (toPxs xs)).p3.n), Cl.d (DV.int .i64 ((imOf w h (toPxs xs)).p4.w)), Cl.d (DV.int .i64 ((imOf w h (toPxs xs)).p4.h)), Cl.d (DV.int .i64 ((imOf w h (toPxs xs)).p4.s)), Cl.ref 4 ((imOf w h (toPxs xs)).p4.n)], AV.one (Cl.d (DV.bool (ofOk w h n)))], [Bx.row 34 1 ((imOf w h (toPxs xs)).p0.xs), Bx.row 34 1 ((imOf w h (toPxs xs)).p1.xs), Bx.row 34 1 ((imOf w h (toPxs xs)).p2.xs), Bx.row 34 1 ((imOf w h (toPxs xs)).p3.xs), Bx.row 34 1 ((imOf w h (toPxs xs)).p4.xs)], true⟩ | _, _ => none) else
  none
 iter := fun f cs =>
  none

def G_ImageD_ann (pw : Int) (ph : Int) (so : Int) (mood : Int) (L : Nat) (xs : List DV) (x0 : Int) (y0 : Int) (x1 : Int) (y1 : Int) (most : Int) : Ann := Ann.leaf
theorem G_ImageD_vc (pw : Int) (ph : Int) (so : Int) (mood : Int) (L : Nat) (xs : List DV) (x0 : Int) (y0 : Int) (x1 : Int) (y1 : Int) (most : Int) : vcg Try.prog gamSb 60 (bodyOf Try.f26) (G_ImageD_ann pw ph so mood L xs x0 y0 x1 y1 most) kn0 (start [RV.agg [DV.int .i64 pw, DV.int .i64 ph, DV.int .i64 so, DV.int .i64 mood, DV.sl L xs], RV.agg [DV.int .i64 x0, DV.int .i64 y0, DV.int .i64 x1, DV.int .i64 y1], RV.d (DV.int .u16 most)]) (post Try.prog Try.f26.results.toList (· = RV.agg [DV.int .i64 ((gImage pw ph so mood L xs x0 y0 x1 y1 most).w), DV.int .i64 ((gImage pw ph so mood L xs x0 y0 x1 y1 most).h), DV.bool ((gImage pw ph so mood L xs x0 y0 x1 y1 most).so), DV.int .u16 (((gImage pw ph so mood L xs x0 y0 x1 y1 most).c).a), DV.int .u16 (((gImage pw ph so mood L xs x0 y0 x1 y1 most).c).b), DV.int .u16 (((gImage pw ph so mood L xs x0 y0 x1 y1 most).c).c), DV.int .u16 (((gImage pw ph so mood L xs x0 y0 x1 y1 most).c).al), DV.int .u16 (((gImage pw ph so mood L xs x0 y0 x1 y1 most).c).f), DV.int .i64 (((gImage pw ph so mood L xs x0 y0 x1 y1 most).p0).w), DV.int .i64 (((gImage pw ph so mood L xs x0 y0 x1 y1 most).p0).h), DV.int .i64 (((gImage pw ph so mood L xs x0 y0 x1 y1 most).p0).s), DV.sl (((gImage pw ph so mood L xs x0 y0 x1 y1 most).p0).n) (((gImage pw ph so mood L xs x0 y0 x1 y1 most).p0).xs), DV.int .i64 (((gImage pw ph so mood L xs x0 y0 x1 y1 most).p1).w), DV.int .i64 (((gImage pw ph so mood L xs x0 y0 x1 y1 most).p1).h), DV.int .i64 (((gImage pw ph so mood L xs x0 y0 x1 y1 most).p1).s), DV.sl (((gImage pw ph so mood L xs x0 y0 x1 y1 most).p1).n) (((gImage pw ph so mood L xs x0 y0 x1 y1 most).p1).xs), DV.int .i64 (((gImage pw ph so mood L xs x0 y0 x1 y1 most).p2).w), DV.int .i64 (((gImage pw ph so mood L xs x0 y0 x1 y1 most).p2).h), DV.int .i64 (((gImage pw ph so mood L xs x0 y0 x1 y1 most).p2).s), DV.sl (((gImage pw ph so mood L xs x0 y0 x1 y1 most).p2).n) (((gImage pw ph so mood L xs x0 y0 x1 y1 most).p2).xs), DV.int .i64 (((gImage pw ph so mood L xs x0 y0 x1 y1 most).p3).w), DV.int .i64 (((gImage pw ph so mood L xs x0 y0 x1 y1 most).p3).h), DV.int .i64 (((gImage pw ph so mood L xs x0 y0 x1 y1 most).p3).s), DV.sl (((gImage pw ph so mood L xs x0 y0 x1 y1 most).p3).n) (((gImage pw ph so mood L xs x0 y0 x1 y1 most).p3).xs), DV.int .i64 (((gImage pw ph so mood L xs x0 y0 x1 y1 most).p4).w), DV.int .i64 (((gImage pw ph so mood L xs x0 y0 x1 y1 most).p4).h), DV.int .i64 (((gImage pw ph so mood L xs x0 y0 x1 y1 most).p4).s), DV.sl (((gImage pw ph so mood L xs x0 y0 x1 y1 most).p4).n) (((gImage pw ph so mood L xs x0 y0 x1 y1 most).p4).xs)])) =
  (let zz0 := (IntKind.wrap .i64 (Int.tdiv pw (5 : Int))); let zz1 := [DV.int .i64 mood, DV.sl L xs]; let zz2 := (IntKind.wrap .i64 (x1 - x0)); let zz3 := (IntKind.wrap .i64 (y1 - y0)); let zz4 := (IntKind.wrap .i64 (zz2 * zz3)); let zz5 := (zz4.toNat); let zz6 := (pxs (gPixels mood L xs most zz4.toNat)); let zz7 := (Ans Try.prog 16 [RV.d (DV.int .i64 so), RV.d (DV.int .i64 2)] (RV.d (DV.int .i64 (modS so (2 : Int))))); let zz8 := (DV.int .i64 zz2); let zz9 := (DV.int .i64 zz3); let zz10 := (imR (solidIm zz2 zz3 ⟨(nAt zz6 0), (nAt zz6 1), (nAt zz6 2), (nAt zz6 3), (nAt zz6 4)⟩)); let zz11 := (imR (gImage pw ph so mood L xs x0 y0 x1 y1 most)); let zz12 := (IntKind.wrap .i64 ((1 : Int) + (modS pw (5 : Int)))); let zz13 := (IntKind.wrap .i64 ((1 : Int) + (modS ph (4 : Int)))); let zz14 := (IntKind.wrap .i64 (zz12 * zz13)); let zz15 := (zz14.toNat); let zz16 := (pxs (gPixels mood L xs most zz14.toNat)); let zz17 := (DV.int .i64 zz12); let zz18 := (DV.int .i64 zz13); let zz19 := (imR (solidIm zz12 zz13 ⟨(nAt zz16 0), (nAt zz16 1), (nAt zz16 2), (nAt zz16 3), (nAt zz16 4)⟩)); True ∧ True ∧ True ∧ True ∧ True ∧ (Ans Try.prog 16 [RV.d (DV.int .i64 pw), RV.d (DV.int .i64 5)] (RV.d (DV.int .i64 (modS pw (5 : Int))))) ∧ True ∧ True ∧ True ∧ (Ans Try.prog 16 [RV.d (DV.int .i64 ph), RV.d (DV.int .i64 4)] (RV.d (DV.int .i64 (modS ph (4 : Int))))) ∧ True ∧ True ∧ True ∧ (true = true) ∧ True ∧ True ∧ ((5 : Int) ≠ 0) ∧ (Ans Try.prog 16 [RV.d (DV.int .i64 zz0), RV.d (DV.int .i64 3)] (RV.d (DV.int .i64 (modS zz0 (3 : Int))))) ∧ True ∧ ((((modS zz0 (3 : Int)) == (0 : Int)) = true → True ∧ True ∧ True ∧ True ∧ True ∧ True ∧ True ∧ True ∧ True ∧ True ∧ True ∧ True ∧ (true = true) ∧ True ∧ True ∧ True ∧ True ∧ True ∧ True ∧ (AnsO Try.prog 60 [RV.agg zz1, RV.d (DV.int .i64 zz4), RV.d (DV.int .u16 most)] 37 5 zz5 zz6) ∧ True ∧ True ∧ True ∧ zz7 ∧ True ∧ ((((modS so (2 : Int)) == (0 : Int)) = true → True ∧ True ∧ True ∧ (0 ≤ (0 : Int) ∧ (0 : Int) < ((zz4.toNat : Nat) : Int)) ∧ ((zz6[0]? = some (DV.int .u16 (nAt zz6 0))) ∧ (zz6[1]? = some (DV.int .u16 (nAt zz6 1))) ∧ (zz6[2]? = some (DV.int .u16 (nAt zz6 2))) ∧ (zz6[3]? = some (DV.int .u16 (nAt zz6 3))) ∧ (zz6[4]? = some (DV.int .u16 (nAt zz6 4))) ∧ True) ∧ (Ans Try.prog 27 [RV.d zz8, RV.d zz9, RV.agg [DV.int .u16 (nAt zz6 0), DV.int .u16 (nAt zz6 1), DV.int .u16 (nAt zz6 2), DV.int .u16 (nAt zz6 3), DV.int .u16 (nAt zz6 4)]] (zz10)) ∧ True ∧ zz10 = zz11) ∧ (((modS so (2 : Int)) == (0 : Int)) = false → True ∧ True ∧ True ∧ (AnsG Try.prog 61 0 [AV.one (Cl.d zz8), AV.one (Cl.d zz9), AV.one (Cl.d (DV.sl zz5 zz6))] [] ⟨AV.tup [(imV 0 (imOf zz2 zz3 (toPxs zz6))), AV.one (Cl.d (DV.bool (ofOk zz2 zz3 zz5)))], (imB 34 (imOf zz2 zz3 (toPxs zz6))), true⟩) ∧ True ∧ True ∧ True ∧ True ∧ True ∧ True ∧ True ∧ True ∧ (imR (imOf zz2 zz3 (toPxs zz6))) = zz11))) ∧ (((modS zz0 (3 : Int)) == (0 : Int)) = false → True ∧ True ∧ True ∧ True ∧ True ∧ True ∧ (AnsO Try.prog 60 [RV.agg zz1, RV.d (DV.int .i64 zz14), RV.d (DV.int .u16 most)] 37 5 zz15 zz16) ∧ True ∧ True ∧ True ∧ zz7 ∧ True ∧ ((((modS so (2 : Int)) == (0 : Int)) = true → True ∧ True ∧ True ∧ (0 ≤ (0 : Int) ∧ (0 : Int) < ((zz14.toNat : Nat) : Int)) ∧ ((zz16[0]? = some (DV.int .u16 (nAt zz16 0))) ∧ (zz16[1]? = some (DV.int .u16 (nAt zz16 1))) ∧ (zz16[2]? = some (DV.int .u16 (nAt zz16 2))) ∧ (zz16[3]? = some (DV.int .u16 (nAt zz16 3))) ∧ (zz16[4]? = some (DV.int .u16 (nAt zz16 4))) ∧ True) ∧ (Ans Try.prog 27 [RV.d zz17, RV.d zz18, RV.agg [DV.int .u16 (nAt zz16 0), DV.int .u16 (nAt zz16 1), DV.int .u16 (nAt zz16 2), DV.int .u16 (nAt zz16 3), DV.int .u16 (nAt zz16 4)]] (zz19)) ∧ True ∧ zz19 = zz11) ∧ (((modS so (2 : Int)) == (0 : Int)) = false → True ∧ True ∧ True ∧ (AnsG Try.prog 61 0 [AV.one (Cl.d zz17), AV.one (Cl.d zz18), AV.one (Cl.d (DV.sl zz15 zz16))] [] ⟨AV.tup [(imV 0 (imOf zz12 zz13 (toPxs zz16))), AV.one (Cl.d (DV.bool (ofOk zz12 zz13 zz15)))], (imB 34 (imOf zz12 zz13 (toPxs zz16))), true⟩) ∧ True ∧ True ∧ True ∧ True ∧ True ∧ True ∧ True ∧ True ∧ (imR (imOf zz12 zz13 (toPxs zz16))) = zz11))))) := by kernel_rfl
theorem G_ImageD_ans (pw : Int) (ph : Int) (so : Int) (mood : Int) (L : Nat) (xs : List DV) (x0 : Int) (y0 : Int) (x1 : Int) (y1 : Int) (most : Int) (hx : Is5 L xs) (hc : 1 ≤ x1 - x0 ∧ x1 - x0 ≤ 100 ∧ 1 ≤ y1 - y0 ∧ y1 - y0 ≤ 100) : Ans Try.prog 26 [RV.agg [DV.int .i64 pw, DV.int .i64 ph, DV.int .i64 so, DV.int .i64 mood, DV.sl L xs], RV.agg [DV.int .i64 x0, DV.int .i64 y0, DV.int .i64 x1, DV.int .i64 y1], RV.d (DV.int .u16 most)] (RV.agg [DV.int .i64 ((gImage pw ph so mood L xs x0 y0 x1 y1 most).w), DV.int .i64 ((gImage pw ph so mood L xs x0 y0 x1 y1 most).h), DV.bool ((gImage pw ph so mood L xs x0 y0 x1 y1 most).so), DV.int .u16 (((gImage pw ph so mood L xs x0 y0 x1 y1 most).c).a), DV.int .u16 (((gImage pw ph so mood L xs x0 y0 x1 y1 most).c).b), DV.int .u16 (((gImage pw ph so mood L xs x0 y0 x1 y1 most).c).c), DV.int .u16 (((gImage pw ph so mood L xs x0 y0 x1 y1 most).c).al), DV.int .u16 (((gImage pw ph so mood L xs x0 y0 x1 y1 most).c).f), DV.int .i64 (((gImage pw ph so mood L xs x0 y0 x1 y1 most).p0).w), DV.int .i64 (((gImage pw ph so mood L xs x0 y0 x1 y1 most).p0).h), DV.int .i64 (((gImage pw ph so mood L xs x0 y0 x1 y1 most).p0).s), DV.sl (((gImage pw ph so mood L xs x0 y0 x1 y1 most).p0).n) (((gImage pw ph so mood L xs x0 y0 x1 y1 most).p0).xs), DV.int .i64 (((gImage pw ph so mood L xs x0 y0 x1 y1 most).p1).w), DV.int .i64 (((gImage pw ph so mood L xs x0 y0 x1 y1 most).p1).h), DV.int .i64 (((gImage pw ph so mood L xs x0 y0 x1 y1 most).p1).s), DV.sl (((gImage pw ph so mood L xs x0 y0 x1 y1 most).p1).n) (((gImage pw ph so mood L xs x0 y0 x1 y1 most).p1).xs), DV.int .i64 (((gImage pw ph so mood L xs x0 y0 x1 y1 most).p2).w), DV.int .i64 (((gImage pw ph so mood L xs x0 y0 x1 y1 most).p2).h), DV.int .i64 (((gImage pw ph so mood L xs x0 y0 x1 y1 most).p2).s), DV.sl (((gImage pw ph so mood L xs x0 y0 x1 y1 most).p2).n) (((gImage pw ph so mood L xs x0 y0 x1 y1 most).p2).xs), DV.int .i64 (((gImage pw ph so mood L xs x0 y0 x1 y1 most).p3).w), DV.int .i64 (((gImage pw ph so mood L xs x0 y0 x1 y1 most).p3).h), DV.int .i64 (((gImage pw ph so mood L xs x0 y0 x1 y1 most).p3).s), DV.sl (((gImage pw ph so mood L xs x0 y0 x1 y1 most).p3).n) (((gImage pw ph so mood L xs x0 y0 x1 y1 most).p3).xs), DV.int .i64 (((gImage pw ph so mood L xs x0 y0 x1 y1 most).p4).w), DV.int .i64 (((gImage pw ph so mood L xs x0 y0 x1 y1 most).p4).h), DV.int .i64 (((gImage pw ph so mood L xs x0 y0 x1 y1 most).p4).s), DV.sl (((gImage pw ph so mood L xs x0 y0 x1 y1 most).p4).n) (((gImage pw ph so mood L xs x0 y0 x1 y1 most).p4).xs)]) :=
  ans_of_vcg (Γ := gamSb) (G_ImageD_ann pw ph so mood L xs x0 y0 x1 y1 most) mixed_ Try.func26 rfl (Nat.le_of_ble_eq_true rfl) fun hwf => by
    refine Eq.mpr (G_ImageD_vc pw ph so mood L xs x0 y0 x1 y1 most) ?_
    simp only [true_and, and_true, RV.d.injEq, RV.agg.injEq, RV.tup.injEq, DV.bool.injEq, DV.int.injEq, DV.sl.injEq, List.cons.injEq, forall_const, Bool.not_false, Bool.not_true, Bool.not_eq_true', Bool.not_eq_false', decide_eq_true_eq, decide_eq_false_iff_not, Int.toNat_natCast, G_Mod_ans]
    
    have go : ∀ W H : Int, (1 ≤ W ∧ W ≤ 100) → (1 ≤ H ∧ H ≤ 100) → 0 < (IntKind.wrap .i64 (W * H)).toNat ∧ IntKind.wrap .i64 (W * H) ≤ 16777216 := fun W H a b => by have := wrap_area a b; omega
    have b5 := @modS_in pw 5 (by omega) (by omega)
    have b4 := @modS_in ph 4 (by omega) (by omega)
    refine ⟨by omega, fun q1 => ?_, fun q1 => ?_⟩
    · have hW : gSide pw 5 x0 x1 pw = IntKind.wrap .i64 (x1 - x0) := by unfold gSide; rw [if_pos (by simpa using q1)]
      have hH : gSide ph 4 y0 y1 pw = IntKind.wrap .i64 (y1 - y0) := by unfold gSide; rw [if_pos (by simpa using q1)]
      have gi := gImage_is pw ph so mood L xs x0 y0 x1 y1 most _ _ hW hH
      have cW : 1 ≤ IntKind.wrap .i64 (x1 - x0) ∧ IntKind.wrap .i64 (x1 - x0) ≤ 100 := by rw [IntWalk.i64_in _ ⟨by omega, by omega⟩]; omega
      have cH : 1 ≤ IntKind.wrap .i64 (y1 - y0) ∧ IntKind.wrap .i64 (y1 - y0) ≤ 100 := by rw [IntWalk.i64_in _ ⟨by omega, by omega⟩]; omega
      generalize IntKind.wrap .i64 (x1 - x0) = W at *
      generalize IntKind.wrap .i64 (y1 - y0) = H at *
      obtain ⟨g1, g2⟩ := go W H cW cH
      have pn := G_Pixels_ans mood L xs (IntKind.wrap .i64 (W * H)) most hx g2
      refine ⟨pn, fun q2 => ?_, fun q2 => ?_⟩
      · have hs : modS so 2 = 0 := by simpa using q2
        rw [if_pos hs] at gi
        obtain ⟨v0, v1, v2, v3, v4⟩ := gPixels_head (mood := mood) (L := L) (xs := xs) (most := most) g1
        have f0 := gFirst (mood := mood) (L := L) (xs := xs) (most := most) g1 0 (by omega)
        have f1 := gFirst (mood := mood) (L := L) (xs := xs) (most := most) g1 1 (by omega)
        have f2 := gFirst (mood := mood) (L := L) (xs := xs) (most := most) g1 2 (by omega)
        have f3 := gFirst (mood := mood) (L := L) (xs := xs) (most := most) g1 3 (by omega)
        have f4 := gFirst (mood := mood) (L := L) (xs := xs) (most := most) g1 4 (by omega)
        have g3 : 0 < IntKind.wrap .i64 (W * H) := by omega
        rw [gi]
        simp only [v0, v1, v2, v3, v4] at f0 f1 f2 f3 f4 ⊢
        exact ⟨⟨by omega, by omega⟩, ⟨f0, f1, f2, f3, f4⟩, R13_Solid_im W H ⟨_, _, _, _, _⟩, trivial⟩
      · have hs : ¬ modS so 2 = 0 := by simpa using q2
        rw [if_neg hs] at gi
        rw [gi]
        have po := R13_ImageOf_im W H _ (pxs (gPixels mood L xs most (IntKind.wrap .i64 (W * H)).toNat)) (gPixels_is _ _ _ _ rfl)
        simp only [toPxs_pxs] at po ⊢
        exact ⟨po, trivial⟩
    · have hW : gSide pw 5 x0 x1 pw = IntKind.wrap .i64 (1 + modS pw 5) := by unfold gSide; rw [if_neg (by simpa using q1)]
      have hH : gSide ph 4 y0 y1 pw = IntKind.wrap .i64 (1 + modS ph 4) := by unfold gSide; rw [if_neg (by simpa using q1)]
      have gi := gImage_is pw ph so mood L xs x0 y0 x1 y1 most _ _ hW hH
      have cW : 1 ≤ IntKind.wrap .i64 (1 + modS pw 5) ∧ IntKind.wrap .i64 (1 + modS pw 5) ≤ 100 := by rw [IntWalk.i64_in _ ⟨by omega, by omega⟩]; omega
      have cH : 1 ≤ IntKind.wrap .i64 (1 + modS ph 4) ∧ IntKind.wrap .i64 (1 + modS ph 4) ≤ 100 := by rw [IntWalk.i64_in _ ⟨by omega, by omega⟩]; omega
      generalize IntKind.wrap .i64 (1 + modS pw 5) = W at *
      generalize IntKind.wrap .i64 (1 + modS ph 4) = H at *
      obtain ⟨g1, g2⟩ := go W H cW cH
      have pn := G_Pixels_ans mood L xs (IntKind.wrap .i64 (W * H)) most hx g2
      refine ⟨pn, fun q2 => ?_, fun q2 => ?_⟩
      · have hs : modS so 2 = 0 := by simpa using q2
        rw [if_pos hs] at gi
        obtain ⟨v0, v1, v2, v3, v4⟩ := gPixels_head (mood := mood) (L := L) (xs := xs) (most := most) g1
        have f0 := gFirst (mood := mood) (L := L) (xs := xs) (most := most) g1 0 (by omega)
        have f1 := gFirst (mood := mood) (L := L) (xs := xs) (most := most) g1 1 (by omega)
        have f2 := gFirst (mood := mood) (L := L) (xs := xs) (most := most) g1 2 (by omega)
        have f3 := gFirst (mood := mood) (L := L) (xs := xs) (most := most) g1 3 (by omega)
        have f4 := gFirst (mood := mood) (L := L) (xs := xs) (most := most) g1 4 (by omega)
        have g3 : 0 < IntKind.wrap .i64 (W * H) := by omega
        rw [gi]
        simp only [v0, v1, v2, v3, v4] at f0 f1 f2 f3 f4 ⊢
        exact ⟨⟨by omega, by omega⟩, ⟨f0, f1, f2, f3, f4⟩, R13_Solid_im W H ⟨_, _, _, _, _⟩, trivial⟩
      · have hs : ¬ modS so 2 = 0 := by simpa using q2
        rw [if_neg hs] at gi
        rw [gi]
        have po := R13_ImageOf_im W H _ (pxs (gPixels mood L xs most (IntKind.wrap .i64 (W * H)).toNat)) (gPixels_is _ _ _ _ rfl)
        simp only [toPxs_pxs] at po ⊢
        exact ⟨po, trivial⟩

end Go.Proofs.Ytkfgmaecbclgfaa

/-
  The generator's script.
-/
namespace Go.Proofs.Ytkfgmaecbclgfaa
open Go.RowKit
set_option linter.unusedVariables false
set_option linter.unusedSimpArgs false
attribute [local irreducible] Ans AnsO AnsG AnsN AnsI

set_option maxRecDepth 4000
def gamSc : Gam where
 pure := fun f xs =>
  if f = 16 then (match xs with | [.d (.int _ n), .d (.int _ k)] => some (RV.d (DV.int .i64 (modS n k))) | _ => none) else
  if f = 23 then (match xs with | [.d (.int _ n)] => some (RV.d (DV.int .u16 (gMax n))) | _ => none) else
  if f = 26 then (match xs with | [.agg [.int _ pw, .int _ ph, .int _ so, .int _ mood, .sl L xs], .agg [.int _ x0, .int _ y0, .int _ x1, .int _ y1], .d (.int _ most)] => some (RV.agg [DV.int .i64 ((gImage pw ph so mood L xs x0 y0 x1 y1 most).w), DV.int .i64 ((gImage pw ph so mood L xs x0 y0 x1 y1 most).h), DV.bool ((gImage pw ph so mood L xs x0 y0 x1 y1 most).so), DV.int .u16 (((gImage pw ph so mood L xs x0 y0 x1 y1 most).c).a), DV.int .u16 (((gImage pw ph so mood L xs x0 y0 x1 y1 most).c).b), DV.int .u16 (((gImage pw ph so mood L xs x0 y0 x1 y1 most).c).c), DV.int .u16 (((gImage pw ph so mood L xs x0 y0 x1 y1 most).c).al), DV.int .u16 (((gImage pw ph so mood L xs x0 y0 x1 y1 most).c).f), DV.int .i64 (((gImage pw ph so mood L xs x0 y0 x1 y1 most).p0).w), DV.int .i64 (((gImage pw ph so mood L xs x0 y0 x1 y1 most).p0).h), DV.int .i64 (((gImage pw ph so mood L xs x0 y0 x1 y1 most).p0).s), DV.sl (((gImage pw ph so mood L xs x0 y0 x1 y1 most).p0).n) (((gImage pw ph so mood L xs x0 y0 x1 y1 most).p0).xs), DV.int .i64 (((gImage pw ph so mood L xs x0 y0 x1 y1 most).p1).w), DV.int .i64 (((gImage pw ph so mood L xs x0 y0 x1 y1 most).p1).h), DV.int .i64 (((gImage pw ph so mood L xs x0 y0 x1 y1 most).p1).s), DV.sl (((gImage pw ph so mood L xs x0 y0 x1 y1 most).p1).n) (((gImage pw ph so mood L xs x0 y0 x1 y1 most).p1).xs), DV.int .i64 (((gImage pw ph so mood L xs x0 y0 x1 y1 most).p2).w), DV.int .i64 (((gImage pw ph so mood L xs x0 y0 x1 y1 most).p2).h), DV.int .i64 (((gImage pw ph so mood L xs x0 y0 x1 y1 most).p2).s), DV.sl (((gImage pw ph so mood L xs x0 y0 x1 y1 most).p2).n) (((gImage pw ph so mood L xs x0 y0 x1 y1 most).p2).xs), DV.int .i64 (((gImage pw ph so mood L xs x0 y0 x1 y1 most).p3).w), DV.int .i64 (((gImage pw ph so mood L xs x0 y0 x1 y1 most).p3).h), DV.int .i64 (((gImage pw ph so mood L xs x0 y0 x1 y1 most).p3).s), DV.sl (((gImage pw ph so mood L xs x0 y0 x1 y1 most).p3).n) (((gImage pw ph so mood L xs x0 y0 x1 y1 most).p3).xs), DV.int .i64 (((gImage pw ph so mood L xs x0 y0 x1 y1 most).p4).w), DV.int .i64 (((gImage pw ph so mood L xs x0 y0 x1 y1 most).p4).h), DV.int .i64 (((gImage pw ph so mood L xs x0 y0 x1 y1 most).p4).s), DV.sl (((gImage pw ph so mood L xs x0 y0 x1 y1 most).p4).n) (((gImage pw ph so mood L xs x0 y0 x1 y1 most).p4).xs)]) | _ => none) else
  if f = 28 then (match xs with | [.agg [.int _ vk, .int _ vim, .int _ vx, .int _ vy, .int _ vma, .int _ vmx, .int _ vmy, .int _ vop, .int _ vope, .int _ vmo, .int _ vfl], .d (.bool push), .d (.int _ imgs), .agg [.int _ ca, .int _ cb, .int _ cc, .int _ cd], .d (.bool free), .d (.int _ most)] => some (RV.agg [DV.int .i64 ((gOp ⟨vk, vim, vx, vy, vma, vmx, vmy, vop, vope, vmo, vfl⟩ push imgs ⟨ca, cb, cc, cd⟩ free most).kind), DV.int .i64 ((gOp ⟨vk, vim, vx, vy, vma, vmx, vmy, vop, vope, vmo, vfl⟩ push imgs ⟨ca, cb, cc, cd⟩ free most).image), DV.int .i64 ((gOp ⟨vk, vim, vx, vy, vma, vmx, vmy, vop, vope, vmo, vfl⟩ push imgs ⟨ca, cb, cc, cd⟩ free most).x), DV.int .i64 ((gOp ⟨vk, vim, vx, vy, vma, vmx, vmy, vop, vope, vmo, vfl⟩ push imgs ⟨ca, cb, cc, cd⟩ free most).y), DV.int .i64 ((gOp ⟨vk, vim, vx, vy, vma, vmx, vmy, vop, vope, vmo, vfl⟩ push imgs ⟨ca, cb, cc, cd⟩ free most).mask), DV.int .i64 ((gOp ⟨vk, vim, vx, vy, vma, vmx, vmy, vop, vope, vmo, vfl⟩ push imgs ⟨ca, cb, cc, cd⟩ free most).mx), DV.int .i64 ((gOp ⟨vk, vim, vx, vy, vma, vmx, vmy, vop, vope, vmo, vfl⟩ push imgs ⟨ca, cb, cc, cd⟩ free most).my), DV.int .u16 ((gOp ⟨vk, vim, vx, vy, vma, vmx, vmy, vop, vope, vmo, vfl⟩ push imgs ⟨ca, cb, cc, cd⟩ free most).opac), DV.int .i64 ((gOp ⟨vk, vim, vx, vy, vma, vmx, vmy, vop, vope, vmo, vfl⟩ push imgs ⟨ca, cb, cc, cd⟩ free most).oper), DV.int .i64 ((gOp ⟨vk, vim, vx, vy, vma, vmx, vmy, vop, vope, vmo, vfl⟩ push imgs ⟨ca, cb, cc, cd⟩ free most).mode), DV.bool ((gOp ⟨vk, vim, vx, vy, vma, vmx, vmy, vop, vope, vmo, vfl⟩ push imgs ⟨ca, cb, cc, cd⟩ free most).iso), DV.bool ((gOp ⟨vk, vim, vx, vy, vma, vmx, vmy, vop, vope, vmo, vfl⟩ push imgs ⟨ca, cb, cc, cd⟩ free most).kno)]) | _ => none) else
  if f = 25 then (match xs with | [] => some (RV.tup [RV.tup [RV.d (DV.int .i64 3), RV.d (DV.int .i64 1)]]) | [.d (.sl n xs), .d (.int _ m)] => some (RV.d (DV.sl ((permL (ints xs) m).length) (is (permL (ints xs) m)))) | _ => none) else
  if f = 24 then (match xs with | [.agg [.int _ a, .int _ b, .int _ c, .int _ d], .d (.int _ w), .d (.int _ h)] => some (RV.tup [RV.d (DV.int .i64 ((cntS ⟨a, b, c, d⟩ w h).1)), RV.d (DV.int .i64 ((cntS ⟨a, b, c, d⟩ w h).2.1)), RV.d (DV.bool ((cntS ⟨a, b, c, d⟩ w h).2.2))]) | _ => none) else
  if f = 27 then (match xs with | [.d (.int _ w), .d (.int _ h), .agg [.int _ c0, .int _ c1, .int _ c2, .int _ ca, .int _ cf]] => some (RV.agg [DV.int .i64 ((solidIm w h ⟨c0, c1, c2, ca, cf⟩).w), DV.int .i64 ((solidIm w h ⟨c0, c1, c2, ca, cf⟩).h), DV.bool ((solidIm w h ⟨c0, c1, c2, ca, cf⟩).so), DV.int .u16 (((solidIm w h ⟨c0, c1, c2, ca, cf⟩).c).a), DV.int .u16 (((solidIm w h ⟨c0, c1, c2, ca, cf⟩).c).b), DV.int .u16 (((solidIm w h ⟨c0, c1, c2, ca, cf⟩).c).c), DV.int .u16 (((solidIm w h ⟨c0, c1, c2, ca, cf⟩).c).al), DV.int .u16 (((solidIm w h ⟨c0, c1, c2, ca, cf⟩).c).f), DV.int .i64 (((solidIm w h ⟨c0, c1, c2, ca, cf⟩).p0).w), DV.int .i64 (((solidIm w h ⟨c0, c1, c2, ca, cf⟩).p0).h), DV.int .i64 (((solidIm w h ⟨c0, c1, c2, ca, cf⟩).p0).s), DV.sl (((solidIm w h ⟨c0, c1, c2, ca, cf⟩).p0).n) (((solidIm w h ⟨c0, c1, c2, ca, cf⟩).p0).xs), DV.int .i64 (((solidIm w h ⟨c0, c1, c2, ca, cf⟩).p1).w), DV.int .i64 (((solidIm w h ⟨c0, c1, c2, ca, cf⟩).p1).h), DV.int .i64 (((solidIm w h ⟨c0, c1, c2, ca, cf⟩).p1).s), DV.sl (((solidIm w h ⟨c0, c1, c2, ca, cf⟩).p1).n) (((solidIm w h ⟨c0, c1, c2, ca, cf⟩).p1).xs), DV.int .i64 (((solidIm w h ⟨c0, c1, c2, ca, cf⟩).p2).w), DV.int .i64 (((solidIm w h ⟨c0, c1, c2, ca, cf⟩).p2).h), DV.int .i64 (((solidIm w h ⟨c0, c1, c2, ca, cf⟩).p2).s), DV.sl (((solidIm w h ⟨c0, c1, c2, ca, cf⟩).p2).n) (((solidIm w h ⟨c0, c1, c2, ca, cf⟩).p2).xs), DV.int .i64 (((solidIm w h ⟨c0, c1, c2, ca, cf⟩).p3).w), DV.int .i64 (((solidIm w h ⟨c0, c1, c2, ca, cf⟩).p3).h), DV.int .i64 (((solidIm w h ⟨c0, c1, c2, ca, cf⟩).p3).s), DV.sl (((solidIm w h ⟨c0, c1, c2, ca, cf⟩).p3).n) (((solidIm w h ⟨c0, c1, c2, ca, cf⟩).p3).xs), DV.int .i64 (((solidIm w h ⟨c0, c1, c2, ca, cf⟩).p4).w), DV.int .i64 (((solidIm w h ⟨c0, c1, c2, ca, cf⟩).p4).h), DV.int .i64 (((solidIm w h ⟨c0, c1, c2, ca, cf⟩).p4).s), DV.sl (((solidIm w h ⟨c0, c1, c2, ca, cf⟩).p4).n) (((solidIm w h ⟨c0, c1, c2, ca, cf⟩).p4).xs)]) | _ => none) else
  none
 modes := fun f =>
  none
 proc := fun f xs bs =>
  none
 iter := fun f cs =>
  none

def G_Script_ann (s : Scn) : Ann := let zz0 := (3, AV.one (Cl.d (DV.int .u16 s.most))); let zz1 := [(1, AV.one (Cl.ptr 1 0)), (2, AV.one (Cl.ptr 2 0)), zz0, (4, AV.one (Cl.ptr 4 0))]; let zz2 := (1, Bx.cells [Cl.d (DV.int .i64 s.b), Cl.d (DV.int .i64 s.x), Cl.d (DV.int .i64 s.y), Cl.d (DV.int .i64 s.w), Cl.d (DV.int .i64 s.h), Cl.d (DV.int .i64 s.tw), Cl.d (DV.int .i64 s.th), Cl.d (DV.sl s.on s.oxs), Cl.d (DV.sl s.pn s.pxs), Cl.d (DV.sl s.rn s.rxs)]); let zz3 := (2, Bx.cells [Cl.d (DV.int .i64 0), Cl.d (DV.int .i64 0), Cl.d (DV.int .i64 0), Cl.d (DV.int .i64 0), Cl.d (DV.int .i64 0), Cl.d (DV.int .i64 0), Cl.d (DV.int .i64 0), Cl.nil, Cl.nil, Cl.nil]); let zz4 := [zz2, zz3, (4, Bx.cells [Cl.d (DV.int .i64 s.bits), Cl.d (DV.int .i64 0), Cl.d (DV.int .i64 0), Cl.d (DV.int .i64 0), Cl.d (DV.int .i64 0), Cl.d (DV.int .i64 0), Cl.d (DV.int .i64 0), Cl.nil, Cl.nil, Cl.nil])]; let zz5 := (7, AV.one (Cl.d (DV.int .i64 s.gw))); let zz6 := (8, AV.one (Cl.d (DV.int .i64 s.gh))); let zz7 := [(1, AV.one (Cl.ptr 1 0)), (2, AV.one (Cl.ptr 2 0)), zz0, (4, AV.one (Cl.ptr 4 0)), zz5, zz6]; let zz8 := (7000, Bx.row 3 1 (is s.ord)); let zz9 := (5000, Bx.row 43 28 (ims s.ims)); let zz10 := (13, AV.one (Cl.ref 5002 ((s.run (min s.rn 9)).2.length))); let zz11 := (5002, Bx.row 55 12 (ops (s.run (min s.rn 9)).2)); let zz12 := fun (k : Nat) => (13, AV.one (Cl.ref 5002 ((s.run k).2.length))); let zz13 := fun (k : Nat) => (14, AV.one (Cl.d (DV.int .i64 ((k : Nat) : Int)))); let zz14 := fun (k : Nat) => (4, Bx.cells [Cl.d (DV.int .i64 s.bits), Cl.d (DV.int .i64 s.c.a), Cl.d (DV.int .i64 s.c.b), Cl.d (DV.int .i64 s.c.c), Cl.d (DV.int .i64 s.c.d), Cl.d (DV.int .i64 s.gtw), Cl.d (DV.int .i64 s.gth), Cl.ref 7000 s.ord.length, Cl.ref 5000 s.ims.length, Cl.ref 5001 ((s.run k).1.length)]); let zz15 := fun (k : Nat) => (5002, Bx.row 55 12 (ops (s.run k).2)); let zz16 := fun (k : Nat) => (5001, Bx.row 55 12 (ops (s.run k).1)); let zz17 := fun (k : Nat) => [zz2, zz3, (zz14 k), (zz15 k), zz8, zz9, (zz16 k)]; let zz18 := fun (k : Nat) => (15, AV.one (Cl.d (DV.int .i64 (modS (nAt s.rxs (((k : Nat) : Int).toNat * 11 + 0)) (8 : Int))))); (Ann.seq Ann.leaf (Ann.seq Ann.leaf (Ann.seq Ann.leaf (Ann.cut ⟨Unit, fun u1 : Unit => True, fun u1 : Unit => ⟨zz1, zz4⟩, fun u1 : Unit => 0⟩ Ann.leaf fun u1 => (Ann.seq Ann.leaf (Ann.cut ⟨Unit, fun u2 : Unit => True, fun u2 : Unit => ⟨[(1, AV.one (Cl.ptr 1 0)), (2, AV.one (Cl.ptr 2 0)), zz0, (4, AV.one (Cl.ptr 4 0)), (5, AV.one (Cl.d (DV.int .i64 s.c.a))), (6, AV.one (Cl.d (DV.int .i64 s.c.b))), zz5, zz6], zz4⟩, fun u2 : Unit => 0⟩ Ann.leaf fun u2 => (Ann.seq Ann.leaf (Ann.cut ⟨Unit, fun u3 : Unit => True, fun u3 : Unit => ⟨zz7, [zz2, zz3, (4, Bx.cells [Cl.d (DV.int .i64 s.bits), Cl.d (DV.int .i64 s.c.a), Cl.d (DV.int .i64 s.c.b), Cl.d (DV.int .i64 s.c.c), Cl.d (DV.int .i64 s.c.d), Cl.d (DV.int .i64 s.gtw), Cl.d (DV.int .i64 s.gth), Cl.nil, Cl.nil, Cl.nil])]⟩, fun u3 : Unit => 0⟩ Ann.leaf fun u3 => (Ann.seq Ann.leaf (Ann.cut ⟨Unit, fun u4 : Unit => True, fun u4 : Unit => ⟨zz7, [zz2, zz3, (4, Bx.cells [Cl.d (DV.int .i64 s.bits), Cl.d (DV.int .i64 s.c.a), Cl.d (DV.int .i64 s.c.b), Cl.d (DV.int .i64 s.c.c), Cl.d (DV.int .i64 s.c.d), Cl.d (DV.int .i64 s.gtw), Cl.d (DV.int .i64 s.gth), Cl.ref 7000 s.ord.length, Cl.nil, Cl.nil]), zz8]⟩, fun u4 : Unit => 0⟩ Ann.leaf fun u4 => (Ann.cut ⟨Unit, fun u6 : Unit => True, fun u6 : Unit => ⟨zz7, [zz2, zz3, (4, Bx.cells [Cl.d (DV.int .i64 s.bits), Cl.d (DV.int .i64 s.c.a), Cl.d (DV.int .i64 s.c.b), Cl.d (DV.int .i64 s.c.c), Cl.d (DV.int .i64 s.c.d), Cl.d (DV.int .i64 s.gtw), Cl.d (DV.int .i64 s.gth), Cl.ref 7000 s.ord.length, Cl.ref 5000 ((s.pics (min s.pn 4)).length), Cl.nil]), zz8, (5000, Bx.row 43 28 (ims (s.pics (min s.pn 4))))]⟩, fun u6 : Unit => 0⟩ (Ann.seq Ann.leaf (Ann.loop ⟨Nat, fun p => p ≤ min s.pn 4, fun p => ⟨[(1, AV.one (Cl.ptr 1 0)), (2, AV.one (Cl.ptr 2 0)), zz0, (4, AV.one (Cl.ptr 4 0)), zz5, zz6, (12, AV.one (Cl.d (DV.int .i64 ((p : Nat) : Int))))], [zz2, zz3, (4, Bx.cells [Cl.d (DV.int .i64 s.bits), Cl.d (DV.int .i64 s.c.a), Cl.d (DV.int .i64 s.c.b), Cl.d (DV.int .i64 s.c.c), Cl.d (DV.int .i64 s.c.d), Cl.d (DV.int .i64 s.gtw), Cl.d (DV.int .i64 s.gth), Cl.ref 7000 s.ord.length, Cl.ref 5000 p, Cl.nil]), zz8, (5000, Bx.row 43 28 (ims (s.pics p)))]⟩, fun p => min s.pn 4 - p⟩ fun p => Ann.leaf)) fun u6 => (Ann.cut ⟨Unit, fun u5 : Unit => True, fun u5 : Unit => ⟨zz1, [zz2, zz3, (4, Bx.cells [Cl.d (DV.int .i64 s.bits), Cl.d (DV.int .i64 s.c.a), Cl.d (DV.int .i64 s.c.b), Cl.d (DV.int .i64 s.c.c), Cl.d (DV.int .i64 s.c.d), Cl.d (DV.int .i64 s.gtw), Cl.d (DV.int .i64 s.gth), Cl.ref 7000 s.ord.length, Cl.ref 5000 s.ims.length, Cl.nil]), zz8, zz9]⟩, fun u5 : Unit => 0⟩ Ann.leaf fun u5 => (Ann.seq Ann.leaf (Ann.cut ⟨Unit, fun u7 : Unit => True, fun u7 : Unit => ⟨[(2, AV.one (Cl.ptr 2 0)), (4, AV.one (Cl.ptr 4 0)), zz10], [zz3, (4, Bx.cells [Cl.d (DV.int .i64 s.bits), Cl.d (DV.int .i64 s.c.a), Cl.d (DV.int .i64 s.c.b), Cl.d (DV.int .i64 s.c.c), Cl.d (DV.int .i64 s.c.d), Cl.d (DV.int .i64 s.gtw), Cl.d (DV.int .i64 s.gth), Cl.ref 7000 s.ord.length, Cl.ref 5000 s.ims.length, Cl.ref 5001 ((s.run (min s.rn 9)).1.length)]), zz11, zz8, zz9, (5001, Bx.row 55 12 (ops (s.run (min s.rn 9)).1))]⟩, fun u7 : Unit => 0⟩ (Ann.seq Ann.leaf (Ann.loop ⟨Nat, fun k => k ≤ min s.rn 9, fun k => ⟨[(1, AV.one (Cl.ptr 1 0)), (2, AV.one (Cl.ptr 2 0)), zz0, (4, AV.one (Cl.ptr 4 0)), (zz12 k), (zz13 k)], (zz17 k)⟩, fun k => min s.rn 9 - k⟩ fun k => (Ann.seq Ann.leaf (Ann.seq (Ann.seq Ann.leaf (Ann.seq Ann.leaf (Ann.cut ⟨Unit, fun u8 : Unit => ¬ (modS (rwAt s.rxs (k * 11)).k 8 = 0 ∧ 0 < (s.run k).2.length), fun u8 : Unit => ⟨[(1, AV.one (Cl.ptr 1 0)), (2, AV.one (Cl.ptr 2 0)), zz0, (4, AV.one (Cl.ptr 4 0)), (zz12 k), (zz13 k), (zz18 k), (16, AV.one (Cl.d (DV.int .i64 (((s.run k).2.length : Nat) : Int))))], (zz17 k)⟩, fun u8 : Unit => 0⟩ Ann.leaf fun u8 => (Ann.cut ⟨Bool, fun fr : Bool => fr = ctxB (s.run k).2, fun fr : Bool => ⟨[(1, AV.one (Cl.ptr 1 0)), (2, AV.one (Cl.ptr 2 0)), zz0, (4, AV.one (Cl.ptr 4 0)), (zz12 k), (zz13 k), (zz18 k), (17, AV.one (Cl.d (DV.bool fr)))], (zz17 k)⟩, fun fr : Bool => 0⟩ Ann.leaf fun fr => (Ann.cut ⟨Oq, fun o : Oq => o = gOp (rwAt s.rxs (k * 11)) (decide (modS (rwAt s.rxs (k * 11)).k 8 < 3)) s.ims.length s.c (ctxB (s.run k).2) s.most, fun o : Oq => ⟨[(1, AV.one (Cl.ptr 1 0)), (2, AV.one (Cl.ptr 2 0)), zz0, (4, AV.one (Cl.ptr 4 0)), (zz12 k), (zz13 k), (18, AV.one (Cl.ptr 18 0))], [zz2, zz3, (zz14 k), (zz15 k), (18, Bx.cells [Cl.d (DV.int .i64 o.kind), Cl.d (DV.int .i64 o.image), Cl.d (DV.int .i64 o.x), Cl.d (DV.int .i64 o.y), Cl.d (DV.int .i64 o.mask), Cl.d (DV.int .i64 o.mx), Cl.d (DV.int .i64 o.my), Cl.d (DV.int .u16 o.opac), Cl.d (DV.int .i64 o.oper), Cl.d (DV.int .i64 o.mode), Cl.d (DV.bool o.iso), Cl.d (DV.bool o.kno)]), zz8, zz9, (zz16 k)]⟩, fun o : Oq => 0⟩ Ann.leaf fun o => Ann.leaf))))) Ann.leaf)))) fun u7 => (Ann.seq (Ann.seq Ann.leaf (Ann.loop ⟨Nat, fun j => j ≤ (s.run (min s.rn 9)).2.length, fun j => ⟨[(2, AV.one (Cl.ptr 2 0)), (4, AV.one (Cl.ptr 4 0)), zz10, (19, AV.one (Cl.d (DV.int .i64 ((j : Nat) : Int))))], [zz3, (4, Bx.cells [Cl.d (DV.int .i64 s.bits), Cl.d (DV.int .i64 s.c.a), Cl.d (DV.int .i64 s.c.b), Cl.d (DV.int .i64 s.c.c), Cl.d (DV.int .i64 s.c.d), Cl.d (DV.int .i64 s.gtw), Cl.d (DV.int .i64 s.gth), Cl.ref 7000 s.ord.length, Cl.ref 5000 s.ims.length, Cl.ref 5001 (((s.run (min s.rn 9)).1 ++ List.replicate j popO).length)]), zz11, zz8, zz9, (5001, Bx.row 55 12 (ops ((s.run (min s.rn 9)).1 ++ List.replicate j popO)))]⟩, fun j => (s.run (min s.rn 9)).2.length - j⟩ fun j => Ann.leaf)) Ann.leaf)))))))))))))))
theorem G_Script_vc (s : Scn) : vcg Try.prog gamSc ⟨221, fun _ => false, List.range 0, false⟩ (bodyOf Try.f9) (G_Script_ann s) kn0 (startG [AV.agg [Cl.d (DV.int .i64 s.b), Cl.d (DV.int .i64 s.x), Cl.d (DV.int .i64 s.y), Cl.d (DV.int .i64 s.w), Cl.d (DV.int .i64 s.h), Cl.d (DV.int .i64 s.tw), Cl.d (DV.int .i64 s.th), Cl.d (DV.sl s.on s.oxs), Cl.d (DV.sl s.pn s.pxs), Cl.d (DV.sl s.rn s.rxs)]] []) (postG Try.prog ⟨221, fun _ => false, List.range 0, false⟩ Try.f9.results.toList ⟨AV.agg [Cl.d (DV.int .i64 ((s).bits)), Cl.d (DV.int .i64 ((s).c.a)), Cl.d (DV.int .i64 ((s).c.b)), Cl.d (DV.int .i64 ((s).c.c)), Cl.d (DV.int .i64 ((s).c.d)), Cl.d (DV.int .i64 ((s).gtw)), Cl.d (DV.int .i64 ((s).gth)), Cl.ref 0 ((s).ord.length), Cl.ref 1 ((s).ims.length), Cl.ref 2 ((s).ops.length)], [Bx.row 3 1 (is (s).ord), Bx.row 43 28 (ims (s).ims), Bx.row 55 12 (ops (s).ops)], false⟩) =
  (let zz0 := ((0 = 0) ∧ (0 = 0) ∧ (DV.int .u16 (gMax s.b) = DV.int .u16 s.most) ∧ (0 = 0) ∧ True); let zz1 := [DV.int .i64 s.b, DV.int .i64 s.x, DV.int .i64 s.y, DV.int .i64 s.w, DV.int .i64 s.h, DV.int .i64 s.tw, DV.int .i64 s.th, DV.sl s.on s.oxs, DV.sl s.pn s.pxs, DV.sl s.rn s.rxs]; let zz2 := (zz1 = zz1); let zz3 := (DV.int .i64 0 = DV.int .i64 0); let zz4 := (zz3 ∧ zz3 ∧ zz3 ∧ zz3 ∧ zz3 ∧ zz3 ∧ zz3 ∧ True ∧ True ∧ True ∧ True); let zz5 := (DV.int .u16 s.most = DV.int .u16 s.most); let zz6 := (DV.int .i64 s.bits = DV.int .i64 s.bits); let zz7 := (DV.int .i64 s.gw = DV.int .i64 s.gw); let zz8 := (DV.int .i64 s.gh = DV.int .i64 s.gh); let zz9 := ((0 = 0) ∧ (0 = 0) ∧ zz5 ∧ (0 = 0) ∧ zz7 ∧ zz8 ∧ True); let zz10 := (DV.int .i64 s.c.a = DV.int .i64 s.c.a); let zz11 := (DV.int .i64 s.c.b = DV.int .i64 s.c.b); let zz12 := [DV.int .i64 s.c.a, DV.int .i64 s.c.b, DV.int .i64 s.c.c, DV.int .i64 s.c.d]; let zz13 := (IntKind.wrap .i64 (((cntS s.c s.gtw s.gth).1) * ((cntS s.c s.gtw s.gth).2.1))); let zz14 := (DV.int .i64 s.c.c = DV.int .i64 s.c.c); let zz15 := (DV.int .i64 s.c.d = DV.int .i64 s.c.d); let zz16 := (DV.int .i64 s.gtw = DV.int .i64 s.gtw); let zz17 := (DV.int .i64 s.gth = DV.int .i64 s.gth); let zz18 := (s.ord.length = s.ord.length); let zz19 := fun (p : Nat) => (zz9 ∧ (zz2 ∧ zz4 ∧ (zz6 ∧ zz10 ∧ zz11 ∧ zz14 ∧ zz15 ∧ zz16 ∧ zz17 ∧ zz18 ∧ (p = (s.pics (min s.pn 4)).length) ∧ True ∧ True) ∧ (is s.ord = is s.ord) ∧ (ims (s.pics p) = ims (s.pics (min s.pn 4))) ∧ True)); let zz20 := ((Im.ds (solidIm s.gw s.gh ⟨s.most, (0 : Int), (0 : Int), s.most, s.most⟩))); let zz21 := ((0 = 0) ∧ (0 = 0) ∧ zz5 ∧ (0 = 0) ∧ True); let zz22 := (s.ims.length = s.ims.length); let zz23 := fun (k : Nat) => (0 ≤ ((k : Nat) : Int) ∧ ((k : Nat) : Int) < ((s.rn : Nat) : Int) ∧ ((k : Nat) : Int).toNat * 11 < s.rxs.length); let zz24 := fun (k : Nat) => fun (k' : Nat) => (min s.rn 9 - k' < min s.rn 9 - k); let zz25 := fun (k : Nat) => fun (k' : Nat) => (DV.int .i64 (IntKind.wrap .i64 (((k : Nat) : Int) + (1 : Int))) = DV.int .i64 ((k' : Nat) : Int)); let zz26 := fun (k : Nat) => fun (k' : Nat) => (zz6 ∧ zz10 ∧ zz11 ∧ zz14 ∧ zz15 ∧ zz16 ∧ zz17 ∧ zz18 ∧ zz22 ∧ (((s.run k).1.length) + 1 = (s.run k').1.length) ∧ True); let zz27 := fun (k : Nat) => ((s.run k).2.length = (s.run k).2.length); let zz28 := fun (k : Nat) => (DV.int .i64 ((k : Nat) : Int) = DV.int .i64 ((k : Nat) : Int)); let zz29 := fun (k : Nat) => (DV.int .i64 (modS (nAt s.rxs (((k : Nat) : Int).toNat * 11 + 0)) (8 : Int)) = DV.int .i64 (modS (nAt s.rxs (((k : Nat) : Int).toNat * 11 + 0)) (8 : Int))); let zz30 := fun (k : Nat) => (zz6 ∧ zz10 ∧ zz11 ∧ zz14 ∧ zz15 ∧ zz16 ∧ zz17 ∧ zz18 ∧ zz22 ∧ ((s.run k).1.length = (s.run k).1.length) ∧ True); let zz31 := fun (k : Nat) => (ops (s.run k).2 = ops (s.run k).2); let zz32 := fun (k : Nat) => (ops (s.run k).1 = ops (s.run k).1); let zz33 := fun (k : Nat) => (zz2 ∧ zz4 ∧ (zz30 k) ∧ (zz31 k) ∧ (is s.ord = is s.ord) ∧ (ims s.ims = ims s.ims) ∧ (zz32 k) ∧ True); let zz34 := fun (k : Nat) => (((0 = 0) ∧ (0 = 0) ∧ zz5 ∧ (0 = 0) ∧ (zz27 k) ∧ (zz28 k) ∧ (zz29 k) ∧ (DV.int .i64 (((s.run k).2.length : Nat) : Int) = DV.int .i64 (((s.run k).2.length : Nat) : Int)) ∧ True) ∧ (zz33 k)); let zz35 := fun (k : Nat) => (0 ≤ IntKind.wrap .i64 ((((s.run k).2.length : Nat) : Int) - (1 : Int)) ∧ IntKind.wrap .i64 ((((s.run k).2.length : Nat) : Int) - (1 : Int)) < (((s.run k).2.length : Nat) : Int)); let zz36 := fun (k : Nat) => fun (o : Oq) => (o = gOp (rwAt s.rxs (k * 11)) (decide (modS (rwAt s.rxs (k * 11)).k 8 < 3)) s.ims.length s.c (ctxB (s.run k).2) s.most); let zz37 := fun (k : Nat) => fun (k' : Nat) => fun (o : Oq) => ((ops (s.run k).1) ++ ((Oq.cells (o))) = ops (s.run k').1); let zz38 := fun (k : Nat) => (((0 = 0) ∧ (0 = 0) ∧ ((s.run k).2.length = (s.run (min s.rn 9)).2.length) ∧ True) ∧ (zz4 ∧ (zz6 ∧ zz10 ∧ zz11 ∧ zz14 ∧ zz15 ∧ zz16 ∧ zz17 ∧ zz18 ∧ zz22 ∧ ((s.run k).1.length = (s.run (min s.rn 9)).1.length) ∧ True) ∧ (ops (s.run k).2 = ops (s.run (min s.rn 9)).2) ∧ (is s.ord = is s.ord) ∧ (ims s.ims = ims s.ims) ∧ (ops (s.run k).1 = ops (s.run (min s.rn 9)).1) ∧ True)); let zz39 := fun (j : Nat) => (j ≤ (s.run (min s.rn 9)).2.length); let zz40 := ((s.run (min s.rn 9)).2.length = (s.run (min s.rn 9)).2.length); let zz41 := (ops (s.run (min s.rn 9)).2 = ops (s.run (min s.rn 9)).2); True ∧ True ∧ True ∧ True ∧ (Ans Try.prog 23 [RV.d (DV.int .i64 s.b)] (RV.d (DV.int .u16 (gMax s.b)))) ∧ True ∧ True ∧ True ∧ True ∧ (True ∧ True ∧ (((decide ((gMax s.b) > (255 : Int))) = true → True ∧ True ∧ ∃ u1 : Unit, True ∧ (zz0 ∧ (zz2 ∧ zz4 ∧ ((DV.int .i64 16 = DV.int .i64 s.bits) ∧ zz3 ∧ zz3 ∧ zz3 ∧ zz3 ∧ zz3 ∧ zz3 ∧ True ∧ True ∧ True ∧ True) ∧ True))) ∧ ((decide ((gMax s.b) > (255 : Int))) = false → ∃ u1 : Unit, True ∧ (zz0 ∧ (zz2 ∧ zz4 ∧ ((DV.int .i64 8 = DV.int .i64 s.bits) ∧ zz3 ∧ zz3 ∧ zz3 ∧ zz3 ∧ zz3 ∧ zz3 ∧ True ∧ True ∧ True ∧ True) ∧ True))))) ∧ ∀ u1 : Unit, (True) → True ∧ True ∧ (Ans Try.prog 16 [RV.d (DV.int .i64 s.x), RV.d (DV.int .i64 13)] (RV.d (DV.int .i64 (modS s.x (13 : Int))))) ∧ True ∧ True ∧ True ∧ (Ans Try.prog 16 [RV.d (DV.int .i64 s.y), RV.d (DV.int .i64 13)] (RV.d (DV.int .i64 (modS s.y (13 : Int))))) ∧ True ∧ True ∧ True ∧ (true = true) ∧ (True ∧ True ∧ (Ans Try.prog 16 [RV.d (DV.int .i64 s.w), RV.d (DV.int .i64 5)] (RV.d (DV.int .i64 (modS s.w (5 : Int))))) ∧ True ∧ True ∧ True ∧ (Ans Try.prog 16 [RV.d (DV.int .i64 s.h), RV.d (DV.int .i64 4)] (RV.d (DV.int .i64 (modS s.h (4 : Int))))) ∧ True ∧ True ∧ True ∧ (true = true) ∧ ∃ u2 : Unit, True ∧ (((0 = 0) ∧ (0 = 0) ∧ zz5 ∧ (0 = 0) ∧ (DV.int .i64 (IntKind.wrap .i64 ((modS s.x (13 : Int)) - (6 : Int))) = DV.int .i64 s.c.a) ∧ (DV.int .i64 (IntKind.wrap .i64 ((modS s.y (13 : Int)) - (6 : Int))) = DV.int .i64 s.c.b) ∧ (DV.int .i64 (IntKind.wrap .i64 ((1 : Int) + (modS s.w (5 : Int)))) = DV.int .i64 s.gw) ∧ (DV.int .i64 (IntKind.wrap .i64 ((1 : Int) + (modS s.h (4 : Int)))) = DV.int .i64 s.gh) ∧ True) ∧ (zz2 ∧ zz4 ∧ (zz6 ∧ zz3 ∧ zz3 ∧ zz3 ∧ zz3 ∧ zz3 ∧ zz3 ∧ True ∧ True ∧ True ∧ True) ∧ True))) ∧ ∀ u2 : Unit, (True) → True ∧ True ∧ True ∧ True ∧ True ∧ True ∧ True ∧ True ∧ True ∧ True ∧ True ∧ (True ∧ True ∧ True ∧ (Ans Try.prog 16 [RV.d (DV.int .i64 s.tw), RV.d (DV.int .i64 s.gw)] (RV.d (DV.int .i64 (modS s.tw s.gw)))) ∧ True ∧ True ∧ True ∧ True ∧ (Ans Try.prog 16 [RV.d (DV.int .i64 s.th), RV.d (DV.int .i64 s.gh)] (RV.d (DV.int .i64 (modS s.th s.gh)))) ∧ True ∧ True ∧ True ∧ True ∧ True ∧ (true = true) ∧ ∃ u3 : Unit, True ∧ (zz9 ∧ (zz2 ∧ zz4 ∧ (zz6 ∧ zz10 ∧ zz11 ∧ (DV.int .i64 (IntKind.wrap .i64 (s.c.a + s.gw)) = DV.int .i64 s.c.c) ∧ (DV.int .i64 (IntKind.wrap .i64 (s.c.b + s.gh)) = DV.int .i64 s.c.d) ∧ (DV.int .i64 (IntKind.wrap .i64 ((1 : Int) + (modS s.tw s.gw))) = DV.int .i64 s.gtw) ∧ (DV.int .i64 (IntKind.wrap .i64 ((1 : Int) + (modS s.th s.gh))) = DV.int .i64 s.gth) ∧ True ∧ True ∧ True ∧ True) ∧ True))) ∧ ∀ u3 : Unit, (True) → True ∧ True ∧ True ∧ True ∧ True ∧ True ∧ (Ans Try.prog 24 [RV.agg zz12, RV.d (DV.int .i64 s.gtw), RV.d (DV.int .i64 s.gth)] (RV.tup [RV.d (DV.int .i64 ((cntS s.c s.gtw s.gth).1)), RV.d (DV.int .i64 ((cntS s.c s.gtw s.gth).2.1)), RV.d (DV.bool ((cntS s.c s.gtw s.gth).2.2))])) ∧ True ∧ True ∧ True ∧ True ∧ True ∧ True ∧ True ∧ (True ∧ True ∧ True ∧ True ∧ True ∧ (AnsO Try.prog 25 [RV.d (DV.sl s.on s.oxs), RV.d (DV.int .i64 zz13)] 3 1 ((permL (ints s.oxs) zz13).length) (is (permL (ints s.oxs) zz13))) ∧ True ∧ True ∧ ∃ u4 : Unit, True ∧ (zz9 ∧ (zz2 ∧ zz4 ∧ (zz6 ∧ zz10 ∧ zz11 ∧ zz14 ∧ zz15 ∧ zz16 ∧ zz17 ∧ ((permL (ints s.oxs) zz13).length = s.ord.length) ∧ True ∧ True ∧ True) ∧ (is (permL (ints s.oxs) zz13) = is s.ord) ∧ True))) ∧ ∀ u4 : Unit, (True) → (True ∧ ((∃ p : Nat, (p ≤ min s.pn 4) ∧ (((0 = 0) ∧ (0 = 0) ∧ zz5 ∧ (0 = 0) ∧ zz7 ∧ zz8 ∧ (DV.int .i64 0 = DV.int .i64 ((p : Nat) : Int)) ∧ True) ∧ (zz2 ∧ zz4 ∧ (zz6 ∧ zz10 ∧ zz11 ∧ zz14 ∧ zz15 ∧ zz16 ∧ zz17 ∧ zz18 ∧ (0 = p) ∧ True ∧ True) ∧ (is s.ord = is s.ord) ∧ ([] = ims (s.pics p)) ∧ True))) ∧ ∀ p : Nat, (p ≤ min s.pn 4) → True ∧ True ∧ True ∧ True ∧ True ∧ True ∧ (((decide (((p : Nat) : Int) < ((s.pn : Nat) : Int))) = true → True ∧ True ∧ True ∧ (((decide (((p : Nat) : Int) < (4 : Int))) = true → True ∧ True ∧ True ∧ True ∧ True ∧ (0 ≤ ((p : Nat) : Int) ∧ ((p : Nat) : Int) < ((s.pn : Nat) : Int) ∧ ((p : Nat) : Int).toNat * 5 < s.pxs.length) ∧ ((s.pxs[((p : Nat) : Int).toNat * 5]? = some (DV.int .i64 (nAt s.pxs (((p : Nat) : Int).toNat * 5)))) ∧ (s.pxs[((p : Nat) : Int).toNat * 5 + 1]? = some (DV.int .i64 (nAt s.pxs (((p : Nat) : Int).toNat * 5 + 1)))) ∧ (s.pxs[((p : Nat) : Int).toNat * 5 + 1 + 1]? = some (DV.int .i64 (nAt s.pxs (((p : Nat) : Int).toNat * 5 + 1 + 1)))) ∧ (s.pxs[((p : Nat) : Int).toNat * 5 + 1 + 1 + 1]? = some (DV.int .i64 (nAt s.pxs (((p : Nat) : Int).toNat * 5 + 1 + 1 + 1)))) ∧ (s.pxs[((p : Nat) : Int).toNat * 5 + 1 + 1 + 1 + 1]? = some (DV.sl (lAt s.pxs (((p : Nat) : Int).toNat * 5 + 1 + 1 + 1 + 1)) (cAt s.pxs (((p : Nat) : Int).toNat * 5 + 1 + 1 + 1 + 1)))) ∧ True) ∧ True ∧ True ∧ True ∧ (Ans Try.prog 26 [RV.agg [DV.int .i64 (nAt s.pxs (((p : Nat) : Int).toNat * 5)), DV.int .i64 (nAt s.pxs (((p : Nat) : Int).toNat * 5 + 1)), DV.int .i64 (nAt s.pxs (((p : Nat) : Int).toNat * 5 + 1 + 1)), DV.int .i64 (nAt s.pxs (((p : Nat) : Int).toNat * 5 + 1 + 1 + 1)), DV.sl (lAt s.pxs (((p : Nat) : Int).toNat * 5 + 1 + 1 + 1 + 1)) (cAt s.pxs (((p : Nat) : Int).toNat * 5 + 1 + 1 + 1 + 1))], RV.agg zz12, RV.d (DV.int .u16 s.most)] ((imR (gImage (nAt s.pxs (((p : Nat) : Int).toNat * 5)) (nAt s.pxs (((p : Nat) : Int).toNat * 5 + 1)) (nAt s.pxs (((p : Nat) : Int).toNat * 5 + 1 + 1)) (nAt s.pxs (((p : Nat) : Int).toNat * 5 + 1 + 1 + 1)) (lAt s.pxs (((p : Nat) : Int).toNat * 5 + 1 + 1 + 1 + 1)) (cAt s.pxs (((p : Nat) : Int).toNat * 5 + 1 + 1 + 1 + 1)) s.c.a s.c.b s.c.c s.c.d s.most)))) ∧ True ∧ (appVc 28 272 p 1 (ims (s.pics p)) ((Im.ds (gImage (nAt s.pxs (((p : Nat) : Int).toNat * 5)) (nAt s.pxs (((p : Nat) : Int).toNat * 5 + 1)) (nAt s.pxs (((p : Nat) : Int).toNat * 5 + 1 + 1)) (nAt s.pxs (((p : Nat) : Int).toNat * 5 + 1 + 1 + 1)) (lAt s.pxs (((p : Nat) : Int).toNat * 5 + 1 + 1 + 1 + 1)) (cAt s.pxs (((p : Nat) : Int).toNat * 5 + 1 + 1 + 1 + 1)) s.c.a s.c.b s.c.c s.c.d s.most)))) ∧ True ∧ True ∧ (true = true) ∧ True ∧ True ∧ True ∧ ∃ p' : Nat, (p' ≤ min s.pn 4) ∧ (min s.pn 4 - p' < min s.pn 4 - p) ∧ (((0 = 0) ∧ (0 = 0) ∧ zz5 ∧ (0 = 0) ∧ zz7 ∧ zz8 ∧ (DV.int .i64 (IntKind.wrap .i64 (((p : Nat) : Int) + (1 : Int))) = DV.int .i64 ((p' : Nat) : Int)) ∧ True) ∧ (zz2 ∧ zz4 ∧ (zz6 ∧ zz10 ∧ zz11 ∧ zz14 ∧ zz15 ∧ zz16 ∧ zz17 ∧ zz18 ∧ (p + 1 = p') ∧ True ∧ True) ∧ (is s.ord = is s.ord) ∧ ((ims (s.pics p)) ++ ((Im.ds (gImage (nAt s.pxs (((p : Nat) : Int).toNat * 5)) (nAt s.pxs (((p : Nat) : Int).toNat * 5 + 1)) (nAt s.pxs (((p : Nat) : Int).toNat * 5 + 1 + 1)) (nAt s.pxs (((p : Nat) : Int).toNat * 5 + 1 + 1 + 1)) (lAt s.pxs (((p : Nat) : Int).toNat * 5 + 1 + 1 + 1 + 1)) (cAt s.pxs (((p : Nat) : Int).toNat * 5 + 1 + 1 + 1 + 1)) s.c.a s.c.b s.c.c s.c.d s.most))) = ims (s.pics p')) ∧ True))) ∧ ((decide (((p : Nat) : Int) < (4 : Int))) = false → ∃ u6 : Unit, True ∧ (zz19 p)))) ∧ ((decide (((p : Nat) : Int) < ((s.pn : Nat) : Int))) = (!true) → True ∧ ∃ u6 : Unit, True ∧ (zz19 p))))) ∧ ∀ u6 : Unit, (True) → (True ∧ True ∧ ((s.pics (min s.pn 4)).length ≤ maxLen) ∧ True ∧ ((((((s.pics (min s.pn 4)).length : Nat) : Int) == (0 : Int)) = true → True ∧ True ∧ True ∧ True ∧ True ∧ True ∧ True ∧ True ∧ True ∧ (Ans Try.prog 27 [RV.d (DV.int .i64 s.gw), RV.d (DV.int .i64 s.gh), RV.agg [DV.int .u16 s.most, DV.int .u16 0, DV.int .u16 0, DV.int .u16 s.most, DV.int .u16 s.most]] ((imR (solidIm s.gw s.gh ⟨s.most, (0 : Int), (0 : Int), s.most, s.most⟩)))) ∧ True ∧ (appVc 28 272 ((s.pics (min s.pn 4)).length) 1 (ims (s.pics (min s.pn 4))) zz20) ∧ True ∧ True ∧ (true = true) ∧ ∃ u5 : Unit, True ∧ (zz21 ∧ (zz2 ∧ zz4 ∧ (zz6 ∧ zz10 ∧ zz11 ∧ zz14 ∧ zz15 ∧ zz16 ∧ zz17 ∧ zz18 ∧ (((s.pics (min s.pn 4)).length) + 1 = s.ims.length) ∧ True ∧ True) ∧ (is s.ord = is s.ord) ∧ ((ims (s.pics (min s.pn 4))) ++ zz20 = ims s.ims) ∧ True))) ∧ (((((s.pics (min s.pn 4)).length : Nat) : Int) == (0 : Int)) = false → ∃ u5 : Unit, True ∧ (zz21 ∧ (zz2 ∧ zz4 ∧ (zz6 ∧ zz10 ∧ zz11 ∧ zz14 ∧ zz15 ∧ zz16 ∧ zz17 ∧ zz18 ∧ ((s.pics (min s.pn 4)).length = s.ims.length) ∧ True ∧ True) ∧ (is s.ord = is s.ord) ∧ (ims (s.pics (min s.pn 4)) = ims s.ims) ∧ True))))) ∧ ∀ u5 : Unit, (True) → True ∧ (True ∧ ((∃ k : Nat, (k ≤ min s.rn 9) ∧ (((0 = 0) ∧ (0 = 0) ∧ zz5 ∧ (0 = 0) ∧ (0 = (s.run k).2.length) ∧ (DV.int .i64 0 = DV.int .i64 ((k : Nat) : Int)) ∧ True) ∧ (zz2 ∧ zz4 ∧ (zz6 ∧ zz10 ∧ zz11 ∧ zz14 ∧ zz15 ∧ zz16 ∧ zz17 ∧ zz18 ∧ zz22 ∧ (0 = (s.run k).1.length) ∧ True) ∧ ([] = ops (s.run k).2) ∧ (is s.ord = is s.ord) ∧ (ims s.ims = ims s.ims) ∧ ([] = ops (s.run k).1) ∧ True))) ∧ ∀ k : Nat, (k ≤ min s.rn 9) → True ∧ True ∧ True ∧ True ∧ True ∧ True ∧ (((decide (((k : Nat) : Int) < ((s.rn : Nat) : Int))) = true → True ∧ True ∧ True ∧ (((decide (((k : Nat) : Int) < (9 : Int))) = true → True ∧ True ∧ True ∧ (zz23 k) ∧ True ∧ ((s.rxs[((k : Nat) : Int).toNat * 11 + 0]? = some (DV.int .i64 (nAt s.rxs (((k : Nat) : Int).toNat * 11 + 0)))) ∧ True) ∧ (Ans Try.prog 16 [RV.d (DV.int .i64 (nAt s.rxs (((k : Nat) : Int).toNat * 11 + 0))), RV.d (DV.int .i64 8)] (RV.d (DV.int .i64 (modS (nAt s.rxs (((k : Nat) : Int).toNat * 11 + 0)) (8 : Int))))) ∧ True ∧ True ∧ ((s.run k).2.length ≤ maxLen) ∧ True ∧ (True ∧ True ∧ True ∧ ((((modS (nAt s.rxs (((k : Nat) : Int).toNat * 11 + 0)) (8 : Int)) == (0 : Int)) = true → True ∧ True ∧ True ∧ (((decide ((((s.run k).2.length : Nat) : Int) > (0 : Int))) = true → True ∧ True ∧ True ∧ True ∧ (appVc 12 88 ((s.run k).1.length) 1 (ops (s.run k).1) ([DV.int .i64 3, DV.int .i64 0, DV.int .i64 0, DV.int .i64 0, DV.int .i64 0, DV.int .i64 0, DV.int .i64 0, DV.int .u16 0, DV.int .i64 0, DV.int .i64 0, DV.bool false, DV.bool false])) ∧ True ∧ True ∧ True ∧ True ∧ True ∧ (0 ≤ IntKind.wrap .i64 ((((s.run k).2.length : Nat) : Int) - (1 : Int)) ∧ IntKind.wrap .i64 ((((s.run k).2.length : Nat) : Int) - (1 : Int)) ≤ (((s.run k).2.length : Nat) : Int)) ∧ True ∧ True ∧ True ∧ True ∧ ∃ k' : Nat, (k' ≤ min s.rn 9) ∧ (zz24 k k') ∧ (((0 = 0) ∧ (0 = 0) ∧ zz5 ∧ (0 = 0) ∧ ((IntKind.wrap .i64 ((((s.run k).2.length : Nat) : Int) - (1 : Int))).toNat = (s.run k').2.length) ∧ (zz25 k k') ∧ True) ∧ (zz2 ∧ zz4 ∧ (zz26 k k') ∧ (List.take ((IntKind.wrap .i64 ((((s.run k).2.length : Nat) : Int) - (1 : Int))).toNat * 12) (ops (s.run k).2) = ops (s.run k').2) ∧ (is s.ord = is s.ord) ∧ (ims s.ims = ims s.ims) ∧ ((ops (s.run k).1) ++ ([DV.int .i64 3, DV.int .i64 0, DV.int .i64 0, DV.int .i64 0, DV.int .i64 0, DV.int .i64 0, DV.int .i64 0, DV.int .u16 0, DV.int .i64 0, DV.int .i64 0, DV.bool false, DV.bool false]) = ops (s.run k').1) ∧ True))) ∧ ((decide ((((s.run k).2.length : Nat) : Int) > (0 : Int))) = false → ∃ u8 : Unit, (¬ (modS (rwAt s.rxs (k * 11)).k 8 = 0 ∧ 0 < (s.run k).2.length)) ∧ (zz34 k)))) ∧ (((modS (nAt s.rxs (((k : Nat) : Int).toNat * 11 + 0)) (8 : Int)) == (0 : Int)) = (!true) → True ∧ ∃ u8 : Unit, (¬ (modS (rwAt s.rxs (k * 11)).k 8 = 0 ∧ 0 < (s.run k).2.length)) ∧ (zz34 k)))) ∧ ∀ u8 : Unit, (¬ (modS (rwAt s.rxs (k * 11)).k 8 = 0 ∧ 0 < (s.run k).2.length)) → (True ∧ True ∧ True ∧ ((((((s.run k).2.length : Nat) : Int) == (0 : Int)) = false → True ∧ True ∧ True ∧ (zz35 k) ∧ True ∧ (((ops (s.run k).2)[(IntKind.wrap .i64 ((((s.run k).2.length : Nat) : Int) - (1 : Int))).toNat * 12 + 10]? = some (DV.bool (bAt (ops (s.run k).2) ((IntKind.wrap .i64 ((((s.run k).2.length : Nat) : Int) - (1 : Int))).toNat * 12 + 10)))) ∧ True) ∧ True ∧ (((bAt (ops (s.run k).2) ((IntKind.wrap .i64 ((((s.run k).2.length : Nat) : Int) - (1 : Int))).toNat * 12 + 10)) = true → True ∧ True ∧ True ∧ (zz35 k) ∧ True ∧ (((ops (s.run k).2)[(IntKind.wrap .i64 ((((s.run k).2.length : Nat) : Int) - (1 : Int))).toNat * 12 + 11]? = some (DV.bool (bAt (ops (s.run k).2) ((IntKind.wrap .i64 ((((s.run k).2.length : Nat) : Int) - (1 : Int))).toNat * 12 + 11)))) ∧ True) ∧ True ∧ True ∧ True ∧ True ∧ ∃ fr : Bool, (fr = ctxB (s.run k).2) ∧ (((0 = 0) ∧ (0 = 0) ∧ zz5 ∧ (0 = 0) ∧ (zz27 k) ∧ (zz28 k) ∧ (zz29 k) ∧ (DV.bool (!(bAt (ops (s.run k).2) ((IntKind.wrap .i64 ((((s.run k).2.length : Nat) : Int) - (1 : Int))).toNat * 12 + 11))) = DV.bool fr) ∧ True) ∧ (zz33 k))) ∧ ((bAt (ops (s.run k).2) ((IntKind.wrap .i64 ((((s.run k).2.length : Nat) : Int) - (1 : Int))).toNat * 12 + 10)) = (!true) → True ∧ True ∧ True ∧ ∃ fr : Bool, (fr = ctxB (s.run k).2) ∧ (((0 = 0) ∧ (0 = 0) ∧ zz5 ∧ (0 = 0) ∧ (zz27 k) ∧ (zz28 k) ∧ (zz29 k) ∧ (DV.bool false = DV.bool fr) ∧ True) ∧ (zz33 k))))) ∧ (((((s.run k).2.length : Nat) : Int) == (0 : Int)) = (!false) → True ∧ True ∧ ∃ fr : Bool, (fr = ctxB (s.run k).2) ∧ (((0 = 0) ∧ (0 = 0) ∧ zz5 ∧ (0 = 0) ∧ (zz27 k) ∧ (zz28 k) ∧ (zz29 k) ∧ (DV.bool true = DV.bool fr) ∧ True) ∧ (zz33 k))))) ∧ ∀ fr : Bool, (fr = ctxB (s.run k).2) → (True ∧ True ∧ True ∧ (zz23 k) ∧ ((s.rxs[((k : Nat) : Int).toNat * 11]? = some (DV.int .i64 (nAt s.rxs (((k : Nat) : Int).toNat * 11)))) ∧ (s.rxs[((k : Nat) : Int).toNat * 11 + 1]? = some (DV.int .i64 (nAt s.rxs (((k : Nat) : Int).toNat * 11 + 1)))) ∧ (s.rxs[((k : Nat) : Int).toNat * 11 + 1 + 1]? = some (DV.int .i64 (nAt s.rxs (((k : Nat) : Int).toNat * 11 + 1 + 1)))) ∧ (s.rxs[((k : Nat) : Int).toNat * 11 + 1 + 1 + 1]? = some (DV.int .i64 (nAt s.rxs (((k : Nat) : Int).toNat * 11 + 1 + 1 + 1)))) ∧ (s.rxs[((k : Nat) : Int).toNat * 11 + 1 + 1 + 1 + 1]? = some (DV.int .i64 (nAt s.rxs (((k : Nat) : Int).toNat * 11 + 1 + 1 + 1 + 1)))) ∧ (s.rxs[((k : Nat) : Int).toNat * 11 + 1 + 1 + 1 + 1 + 1]? = some (DV.int .i64 (nAt s.rxs (((k : Nat) : Int).toNat * 11 + 1 + 1 + 1 + 1 + 1)))) ∧ (s.rxs[((k : Nat) : Int).toNat * 11 + 1 + 1 + 1 + 1 + 1 + 1]? = some (DV.int .i64 (nAt s.rxs (((k : Nat) : Int).toNat * 11 + 1 + 1 + 1 + 1 + 1 + 1)))) ∧ (s.rxs[((k : Nat) : Int).toNat * 11 + 1 + 1 + 1 + 1 + 1 + 1 + 1]? = some (DV.int .i64 (nAt s.rxs (((k : Nat) : Int).toNat * 11 + 1 + 1 + 1 + 1 + 1 + 1 + 1)))) ∧ (s.rxs[((k : Nat) : Int).toNat * 11 + 1 + 1 + 1 + 1 + 1 + 1 + 1 + 1]? = some (DV.int .i64 (nAt s.rxs (((k : Nat) : Int).toNat * 11 + 1 + 1 + 1 + 1 + 1 + 1 + 1 + 1)))) ∧ (s.rxs[((k : Nat) : Int).toNat * 11 + 1 + 1 + 1 + 1 + 1 + 1 + 1 + 1 + 1]? = some (DV.int .i64 (nAt s.rxs (((k : Nat) : Int).toNat * 11 + 1 + 1 + 1 + 1 + 1 + 1 + 1 + 1 + 1)))) ∧ (s.rxs[((k : Nat) : Int).toNat * 11 + 1 + 1 + 1 + 1 + 1 + 1 + 1 + 1 + 1 + 1]? = some (DV.int .i64 (nAt s.rxs (((k : Nat) : Int).toNat * 11 + 1 + 1 + 1 + 1 + 1 + 1 + 1 + 1 + 1 + 1)))) ∧ True) ∧ True ∧ True ∧ True ∧ True ∧ (s.ims.length ≤ maxLen) ∧ True ∧ True ∧ True ∧ True ∧ (Ans Try.prog 28 [RV.agg [DV.int .i64 (nAt s.rxs (((k : Nat) : Int).toNat * 11)), DV.int .i64 (nAt s.rxs (((k : Nat) : Int).toNat * 11 + 1)), DV.int .i64 (nAt s.rxs (((k : Nat) : Int).toNat * 11 + 1 + 1)), DV.int .i64 (nAt s.rxs (((k : Nat) : Int).toNat * 11 + 1 + 1 + 1)), DV.int .i64 (nAt s.rxs (((k : Nat) : Int).toNat * 11 + 1 + 1 + 1 + 1)), DV.int .i64 (nAt s.rxs (((k : Nat) : Int).toNat * 11 + 1 + 1 + 1 + 1 + 1)), DV.int .i64 (nAt s.rxs (((k : Nat) : Int).toNat * 11 + 1 + 1 + 1 + 1 + 1 + 1)), DV.int .i64 (nAt s.rxs (((k : Nat) : Int).toNat * 11 + 1 + 1 + 1 + 1 + 1 + 1 + 1)), DV.int .i64 (nAt s.rxs (((k : Nat) : Int).toNat * 11 + 1 + 1 + 1 + 1 + 1 + 1 + 1 + 1)), DV.int .i64 (nAt s.rxs (((k : Nat) : Int).toNat * 11 + 1 + 1 + 1 + 1 + 1 + 1 + 1 + 1 + 1)), DV.int .i64 (nAt s.rxs (((k : Nat) : Int).toNat * 11 + 1 + 1 + 1 + 1 + 1 + 1 + 1 + 1 + 1 + 1))], RV.d (DV.bool (decide ((modS (nAt s.rxs (((k : Nat) : Int).toNat * 11 + 0)) (8 : Int)) < (3 : Int)))), RV.d (DV.int .i64 ((s.ims.length : Nat) : Int)), RV.agg zz12, RV.d (DV.bool fr), RV.d (DV.int .u16 s.most)] (RV.agg (Oq.cells (gOp ⟨(nAt s.rxs (((k : Nat) : Int).toNat * 11)), (nAt s.rxs (((k : Nat) : Int).toNat * 11 + 1)), (nAt s.rxs (((k : Nat) : Int).toNat * 11 + 1 + 1)), (nAt s.rxs (((k : Nat) : Int).toNat * 11 + 1 + 1 + 1)), (nAt s.rxs (((k : Nat) : Int).toNat * 11 + 1 + 1 + 1 + 1)), (nAt s.rxs (((k : Nat) : Int).toNat * 11 + 1 + 1 + 1 + 1 + 1)), (nAt s.rxs (((k : Nat) : Int).toNat * 11 + 1 + 1 + 1 + 1 + 1 + 1)), (nAt s.rxs (((k : Nat) : Int).toNat * 11 + 1 + 1 + 1 + 1 + 1 + 1 + 1)), (nAt s.rxs (((k : Nat) : Int).toNat * 11 + 1 + 1 + 1 + 1 + 1 + 1 + 1 + 1)), (nAt s.rxs (((k : Nat) : Int).toNat * 11 + 1 + 1 + 1 + 1 + 1 + 1 + 1 + 1 + 1)), (nAt s.rxs (((k : Nat) : Int).toNat * 11 + 1 + 1 + 1 + 1 + 1 + 1 + 1 + 1 + 1 + 1))⟩ (decide ((modS (nAt s.rxs (((k : Nat) : Int).toNat * 11 + 0)) (8 : Int)) < (3 : Int))) ((s.ims.length : Nat) : Int) s.c fr s.most)))) ∧ True ∧ True ∧ (true = true) ∧ ∃ o : Oq, (zz36 k o) ∧ (((0 = 0) ∧ (0 = 0) ∧ zz5 ∧ (0 = 0) ∧ (zz27 k) ∧ (zz28 k) ∧ (0 = 0) ∧ True) ∧ (zz2 ∧ zz4 ∧ (zz30 k) ∧ (zz31 k) ∧ ((Oq.cells (gOp ⟨(nAt s.rxs (((k : Nat) : Int).toNat * 11)), (nAt s.rxs (((k : Nat) : Int).toNat * 11 + 1)), (nAt s.rxs (((k : Nat) : Int).toNat * 11 + 1 + 1)), (nAt s.rxs (((k : Nat) : Int).toNat * 11 + 1 + 1 + 1)), (nAt s.rxs (((k : Nat) : Int).toNat * 11 + 1 + 1 + 1 + 1)), (nAt s.rxs (((k : Nat) : Int).toNat * 11 + 1 + 1 + 1 + 1 + 1)), (nAt s.rxs (((k : Nat) : Int).toNat * 11 + 1 + 1 + 1 + 1 + 1 + 1)), (nAt s.rxs (((k : Nat) : Int).toNat * 11 + 1 + 1 + 1 + 1 + 1 + 1 + 1)), (nAt s.rxs (((k : Nat) : Int).toNat * 11 + 1 + 1 + 1 + 1 + 1 + 1 + 1 + 1)), (nAt s.rxs (((k : Nat) : Int).toNat * 11 + 1 + 1 + 1 + 1 + 1 + 1 + 1 + 1 + 1)), (nAt s.rxs (((k : Nat) : Int).toNat * 11 + 1 + 1 + 1 + 1 + 1 + 1 + 1 + 1 + 1 + 1))⟩ (decide ((modS (nAt s.rxs (((k : Nat) : Int).toNat * 11 + 0)) (8 : Int)) < (3 : Int))) ((s.ims.length : Nat) : Int) s.c fr s.most)) = (Oq.cells (o))) ∧ (is s.ord = is s.ord) ∧ (ims s.ims = ims s.ims) ∧ (zz32 k) ∧ True))) ∧ ∀ o : Oq, (zz36 k o) → True ∧ True ∧ True ∧ True ∧ (appVc 12 88 ((s.run k).1.length) 1 (ops (s.run k).1) ((Oq.cells (o)))) ∧ True ∧ True ∧ True ∧ True ∧ True ∧ (((o.kind == (2 : Int)) = true → True ∧ True ∧ True ∧ (appVc 12 88 ((s.run k).2.length) 1 (ops (s.run k).2) ((Oq.cells (o)))) ∧ True ∧ True ∧ True ∧ True ∧ ∃ k' : Nat, (k' ≤ min s.rn 9) ∧ (zz24 k k') ∧ (((0 = 0) ∧ (0 = 0) ∧ zz5 ∧ (0 = 0) ∧ (((s.run k).2.length) + 1 = (s.run k').2.length) ∧ (zz25 k k') ∧ True) ∧ (zz2 ∧ zz4 ∧ (zz26 k k') ∧ ((ops (s.run k).2) ++ ((Oq.cells (o))) = ops (s.run k').2) ∧ (is s.ord = is s.ord) ∧ (ims s.ims = ims s.ims) ∧ (zz37 k k' o) ∧ True))) ∧ ((o.kind == (2 : Int)) = false → True ∧ True ∧ True ∧ ∃ k' : Nat, (k' ≤ min s.rn 9) ∧ (zz24 k k') ∧ (((0 = 0) ∧ (0 = 0) ∧ zz5 ∧ (0 = 0) ∧ ((s.run k).2.length = (s.run k').2.length) ∧ (zz25 k k') ∧ True) ∧ (zz2 ∧ zz4 ∧ (zz26 k k') ∧ (ops (s.run k).2 = ops (s.run k').2) ∧ (is s.ord = is s.ord) ∧ (ims s.ims = ims s.ims) ∧ (zz37 k k' o) ∧ True))))) ∧ ((decide (((k : Nat) : Int) < (9 : Int))) = false → ∃ u7 : Unit, True ∧ (zz38 k)))) ∧ ((decide (((k : Nat) : Int) < ((s.rn : Nat) : Int))) = (!true) → True ∧ ∃ u7 : Unit, True ∧ (zz38 k))))) ∧ ∀ u7 : Unit, (True) → True ∧ ((∃ j : Nat, (zz39 j) ∧ (((0 = 0) ∧ (0 = 0) ∧ zz40 ∧ (DV.int .i64 0 = DV.int .i64 ((j : Nat) : Int)) ∧ True) ∧ (zz4 ∧ (zz6 ∧ zz10 ∧ zz11 ∧ zz14 ∧ zz15 ∧ zz16 ∧ zz17 ∧ zz18 ∧ zz22 ∧ ((s.run (min s.rn 9)).1.length = ((s.run (min s.rn 9)).1 ++ List.replicate j popO).length) ∧ True) ∧ zz41 ∧ (is s.ord = is s.ord) ∧ (ims s.ims = ims s.ims) ∧ (ops (s.run (min s.rn 9)).1 = ops ((s.run (min s.rn 9)).1 ++ List.replicate j popO)) ∧ True))) ∧ ∀ j : Nat, (zz39 j) → True ∧ True ∧ ((s.run (min s.rn 9)).2.length ≤ maxLen) ∧ True ∧ (((decide (((j : Nat) : Int) < (((s.run (min s.rn 9)).2.length : Nat) : Int))) = true → True ∧ True ∧ True ∧ True ∧ (appVc 12 88 (((s.run (min s.rn 9)).1 ++ List.replicate j popO).length) 1 (ops ((s.run (min s.rn 9)).1 ++ List.replicate j popO)) ([DV.int .i64 3, DV.int .i64 0, DV.int .i64 0, DV.int .i64 0, DV.int .i64 0, DV.int .i64 0, DV.int .i64 0, DV.int .u16 0, DV.int .i64 0, DV.int .i64 0, DV.bool false, DV.bool false])) ∧ True ∧ True ∧ True ∧ True ∧ True ∧ ∃ j' : Nat, (j' ≤ (s.run (min s.rn 9)).2.length) ∧ ((s.run (min s.rn 9)).2.length - j' < (s.run (min s.rn 9)).2.length - j) ∧ (((0 = 0) ∧ (0 = 0) ∧ zz40 ∧ (DV.int .i64 (IntKind.wrap .i64 (((j : Nat) : Int) + (1 : Int))) = DV.int .i64 ((j' : Nat) : Int)) ∧ True) ∧ (zz4 ∧ (zz6 ∧ zz10 ∧ zz11 ∧ zz14 ∧ zz15 ∧ zz16 ∧ zz17 ∧ zz18 ∧ zz22 ∧ ((((s.run (min s.rn 9)).1 ++ List.replicate j popO).length) + 1 = ((s.run (min s.rn 9)).1 ++ List.replicate j' popO).length) ∧ True) ∧ zz41 ∧ (is s.ord = is s.ord) ∧ (ims s.ims = ims s.ims) ∧ ((ops ((s.run (min s.rn 9)).1 ++ List.replicate j popO)) ++ ([DV.int .i64 3, DV.int .i64 0, DV.int .i64 0, DV.int .i64 0, DV.int .i64 0, DV.int .i64 0, DV.int .i64 0, DV.int .u16 0, DV.int .i64 0, DV.int .i64 0, DV.bool false, DV.bool false]) = ops ((s.run (min s.rn 9)).1 ++ List.replicate j' popO)) ∧ True))) ∧ ((decide (((j : Nat) : Int) < (((s.run (min s.rn 9)).2.length : Nat) : Int))) = false → True ∧ True ∧ ((((DV.int .i64 s.bits = DV.int .i64 ((s).bits)) ∧ (DV.int .i64 s.c.a = DV.int .i64 ((s).c.a)) ∧ (DV.int .i64 s.c.b = DV.int .i64 ((s).c.b)) ∧ (DV.int .i64 s.c.c = DV.int .i64 ((s).c.c)) ∧ (DV.int .i64 s.c.d = DV.int .i64 ((s).c.d)) ∧ (DV.int .i64 s.gtw = DV.int .i64 ((s).gtw)) ∧ (DV.int .i64 s.gth = DV.int .i64 ((s).gth)) ∧ (s.ord.length = (s).ord.length) ∧ (s.ims.length = (s).ims.length) ∧ (((s.run (min s.rn 9)).1 ++ List.replicate j popO).length = (s).ops.length) ∧ True) ∧ True) ∧ ((is s.ord = is (s).ord) ∧ (ims s.ims = ims (s).ims) ∧ (ops ((s.run (min s.rn 9)).1 ++ List.replicate j popO) = ops (s).ops) ∧ True)) ∧ freshOK ⟨AV.agg [Cl.d (DV.int .i64 ((s).bits)), Cl.d (DV.int .i64 ((s).c.a)), Cl.d (DV.int .i64 ((s).c.b)), Cl.d (DV.int .i64 ((s).c.c)), Cl.d (DV.int .i64 ((s).c.d)), Cl.d (DV.int .i64 ((s).gtw)), Cl.d (DV.int .i64 ((s).gth)), Cl.ref 0 ((s).ord.length), Cl.ref 1 ((s).ims.length), Cl.ref 2 ((s).ops.length)], [Bx.row 3 1 (is (s).ord), Bx.row 43 28 (ims (s).ims), Bx.row 55 12 (ops (s).ops)], false⟩)))) := by kernel_rfl
theorem G_Script_ans (s : Scn) (hs : s.ok) : AnsG Try.prog 9 0 [AV.agg [Cl.d (DV.int .i64 s.b), Cl.d (DV.int .i64 s.x), Cl.d (DV.int .i64 s.y), Cl.d (DV.int .i64 s.w), Cl.d (DV.int .i64 s.h), Cl.d (DV.int .i64 s.tw), Cl.d (DV.int .i64 s.th), Cl.d (DV.sl s.on s.oxs), Cl.d (DV.sl s.pn s.pxs), Cl.d (DV.sl s.rn s.rxs)]] [] ⟨AV.agg [Cl.d (DV.int .i64 ((s).bits)), Cl.d (DV.int .i64 ((s).c.a)), Cl.d (DV.int .i64 ((s).c.b)), Cl.d (DV.int .i64 ((s).c.c)), Cl.d (DV.int .i64 ((s).c.d)), Cl.d (DV.int .i64 ((s).gtw)), Cl.d (DV.int .i64 ((s).gth)), Cl.ref 0 ((s).ord.length), Cl.ref 1 ((s).ims.length), Cl.ref 2 ((s).ops.length)], [Bx.row 3 1 (is (s).ord), Bx.row 43 28 (ims (s).ims), Bx.row 55 12 (ops (s).ops)], false⟩ :=
  ansG_of_vcg (Γ := gamSc) (G_Script_ann s) mixed_ Try.func9 rfl (Nat.le_of_ble_eq_true rfl) rfl fun hwf hbx => by
    refine Eq.mpr (G_Script_vc s) ?_
    simp only [true_and, and_true, RV.d.injEq, RV.agg.injEq, RV.tup.injEq, DV.bool.injEq, DV.int.injEq, DV.sl.injEq, List.cons.injEq, forall_const, Bool.not_false, Bool.not_true, Bool.not_eq_true', Bool.not_eq_false', decide_eq_true_eq, decide_eq_false_iff_not, Int.toNat_natCast, G_Mod_ans, G_Max_ans]
    obtain ⟨⟨ho1, ho2⟩, ⟨hp1, hp2⟩, ⟨hr1, hr2⟩⟩ := hs
    obtain ⟨f1, f2, f3, f4, f5, f6⟩ := s.facts
    have CF := s.c_facts
    have w1 : IntKind.wrap .i64 (modS s.x 13 - 6) = s.c.a := IntWalk.i64_in _ ⟨by omega, by omega⟩
    have w2 : IntKind.wrap .i64 (modS s.y 13 - 6) = s.c.b := IntWalk.i64_in _ ⟨by omega, by omega⟩
    have g1 : s.gw = 1 + modS s.w 5 := rfl
    have g2 : s.gh = 1 + modS s.h 4 := rfl
    have g3 : s.gtw = 1 + modS s.tw s.gw := rfl
    have g4 : s.gth = 1 + modS s.th s.gh := rfl
    have w3 : IntKind.wrap .i64 (1 + modS s.w 5) = s.gw := IntWalk.i64_in _ ⟨by omega, by omega⟩
    have w4 : IntKind.wrap .i64 (1 + modS s.h 4) = s.gh := IntWalk.i64_in _ ⟨by omega, by omega⟩
    have w5 : IntKind.wrap .i64 (s.c.a + s.gw) = s.c.c := by rw [IntWalk.i64_in _ ⟨by omega, by omega⟩]; omega
    have w6 : IntKind.wrap .i64 (s.c.b + s.gh) = s.c.d := by rw [IntWalk.i64_in _ ⟨by omega, by omega⟩]; omega
    have w7 : IntKind.wrap .i64 (1 + modS s.tw s.gw) = s.gtw := IntWalk.i64_in _ ⟨by omega, by omega⟩
    have w8 : IntKind.wrap .i64 (1 + modS s.th s.gh) = s.gth := IntWalk.i64_in _ ⟨by omega, by omega⟩
    have hm := s.tiles_in
    have hM : ∀ n : Nat, n ≤ 100 → n ≤ maxLen := fun n h => by unfold maxLen; omega
    have li := s.ims_len
    have lk := fun k => s.run_len k
    have pq : 1 ≤ s.c.c - s.c.a ∧ s.c.c - s.c.a ≤ 100 ∧ 1 ≤ s.c.d - s.c.b ∧ s.c.d - s.c.b ≤ 100 := by omega
    have BI := s.bits_of
    refine ⟨⟨fun h => ⟨(), rfl, BI.1 h⟩, fun h => ⟨(), rfl, BI.2 h⟩⟩, ⟨(), w1, w2, w3, w4⟩, ⟨(), w5, w6, w7, w8⟩, R13_Tiles_ans _ _ _ _ _ _, ⟨G_Permutation_ans _ _ _ ⟨ho1, ho2⟩ hm.1, (), rfl, rfl⟩, ⟨⟨0, Nat.zero_le _, rfl, rfl, rfl⟩, fun p hp => ⟨fun h1 => ⟨fun h2 => ?_, fun h2 => ?_⟩, fun h1 => ?_⟩⟩, ?_⟩
    · obtain ⟨q0, q1, q2, q3, q4, q5⟩ := hp2 p (by omega)
      refine ⟨⟨by omega, by omega, by omega⟩, ⟨q0, q1, q2, q3, q4⟩, G_ImageD_ans _ _ _ _ _ _ _ _ _ _ _ q5 pq, ⟨by rw [ims_length, s.pics_len], by rw [Im.ds_len], hM _ (by omega), by omega⟩, p + 1, by omega, by omega, wrap_succ (by omega), rfl, ?_⟩
      rw [s.pics_succ, ims_append, ims_one]; rfl
    · have : p = min s.pn 4 := by omega
      subst this
      exact ⟨(), (s.pics_len _).symm, rfl⟩
    · have : p = min s.pn 4 := by omega
      subst this
      exact ⟨(), (s.pics_len _).symm, rfl⟩
    have lp := s.pics_len (min s.pn 4)
    refine ⟨⟨hM _ (by omega), fun h => ?_, fun h => ?_⟩, ⟨⟨0, Nat.zero_le _, ⟨rfl, rfl⟩, rfl, rfl, rfl⟩, fun k hk => ⟨fun h1 => ⟨fun h2 => ?_, fun h2 => ?_⟩, fun h1 => ?_⟩⟩, ?_⟩
    · have h0 : min s.pn 4 = 0 := by rw [lp] at h; simpa using h
      have e1 : s.ims = [s.solo] := by unfold Scn.ims; rw [if_pos h0]
      have e2 : s.pics (min s.pn 4) = [] := by rw [h0]; rfl
      rw [e1, e2]
      exact ⟨R13_Solid_im s.gw s.gh ⟨_, _, _, _, _⟩, ⟨by simp [ims], by simp [Im.ds], hM _ (by simp), by simp⟩, (), rfl, by simp [ims]; rfl⟩
    · have h0 : ¬ min s.pn 4 = 0 := by rw [lp] at h; simpa using h
      have e1 : s.ims = s.pics (min s.pn 4) := by unfold Scn.ims; rw [if_neg h0]
      rw [e1]
      exact ⟨(), rfl, rfl⟩
    · have lk1 := (lk k).1
      have lk2 := (lk k).2
      have ro := fun i (h : i < 11) => hr2 (k * 11 + i) (by omega)
      have wl : 0 < (s.run k).2.length → IntKind.wrap .i64 (((s.run k).2.length : Int) - 1) = (((s.run k).2.length - 1 : Nat) : Int) := fun h => by rw [IntWalk.i64_in _ ⟨by omega, by omega⟩]; omega
      have ws : IntKind.wrap .i64 ((k : Int) + 1) = ((k + 1 : Nat) : Int) := wrap_succ (by omega)
      refine ⟨⟨by omega, by omega, by omega⟩, ro 0 (by omega), hM _ (by omega), ⟨fun a1 => ⟨fun a2 => ?_, fun a2 => ⟨(), fun h => a2 (by omega)⟩⟩, fun a1 => ⟨(), fun h => ?_⟩⟩, fun hn => ⟨⟨fun a1 => ?_, fun a1 => ?_⟩, fun fr hfr => ⟨?_, fun o ho => ?_⟩⟩⟩
      · have a3 : 0 < (s.run k).2.length := by omega
        have a4 : modS (nAt s.rxs (k * 11)) 8 = 0 := by simpa using a1
        have rp := Scn.run_pop (s := s) (k := k) ⟨a4, a3⟩
        rw [wl a3]
        refine ⟨⟨by rw [ops_length, lk1], rfl, hM _ (by omega), by omega⟩, ⟨by omega, by omega⟩, k + 1, by omega, by omega, ⟨?_, ws⟩, ?_, ?_, ?_⟩
        · rw [rp]; simp
        · rw [rp]; simp
        · rw [rp, Int.toNat_natCast, ops_take, List.dropLast_eq_take]
        · rw [rp, ops_append, ops_one]; rfl
      · have a4 : ¬ modS (nAt s.rxs (k * 11)) 8 = 0 := by simpa using a1
        exact a4 h.1
      · have a3 : 0 < (s.run k).2.length := by
          have : ¬ (s.run k).2.length = 0 := by simpa using a1
          omega
        have hl : (s.run k).2.length - 1 < (s.run k).2.length := by omega
        have g10 : (ops (s.run k).2)[((s.run k).2.length - 1) * 12 + 10]? = some (.bool (s.run k).2[(s.run k).2.length - 1].iso) := ops_get hl 10 (by omega)
        have g11 : (ops (s.run k).2)[((s.run k).2.length - 1) * 12 + 11]? = some (.bool (s.run k).2[(s.run k).2.length - 1].kno) := ops_get hl 11 (by omega)
        have b10 : bAt (ops (s.run k).2) (((s.run k).2.length - 1) * 12 + 10) = (s.run k).2[(s.run k).2.length - 1].iso := by simp only [bAt, g10]
        have b11 : bAt (ops (s.run k).2) (((s.run k).2.length - 1) * 12 + 11) = (s.run k).2[(s.run k).2.length - 1].kno := by simp only [bAt, g11]
        rw [wl a3, Int.toNat_natCast, b10, b11, ctxB_last a3]
        refine ⟨⟨by omega, by omega⟩, g10, fun h => ⟨⟨by omega, by omega⟩, g11, _, rfl, ?_⟩, fun h => ⟨_, rfl, ?_⟩⟩ <;> simp [h]
      · have a3 : (s.run k).2.length = 0 := by simpa using a1
        rw [List.length_eq_zero_iff.1 a3]
        exact ⟨_, rfl, rfl⟩
      · subst hfr
        refine ⟨⟨by omega, by omega, by omega⟩, ⟨ro 0 (by omega), ro 1 (by omega), ro 2 (by omega), ro 3 (by omega), ro 4 (by omega), ro 5 (by omega), ro 6 (by omega), ro 7 (by omega), ro 8 (by omega), ro 9 (by omega), ro 10 (by omega)⟩, hM _ (by omega), G_Op_ans (rwAt s.rxs (k * 11)) _ _ _ _ _ ⟨⟨by omega, by omega⟩, by omega, by omega⟩ ⟨by omega, by omega⟩, _, rfl, rfl⟩
      · obtain ⟨r1, r2⟩ := Scn.run_op (s := s) (k := k) hn ho
        clear ho
        refine ⟨⟨by rw [ops_length, lk1], rfl, hM _ (by omega), by omega⟩, fun a1 => ⟨⟨by rw [ops_length], rfl, hM _ (by omega), by omega⟩, k + 1, by omega, by omega, ⟨?_, ws⟩, ?_, ?_, ?_⟩, fun a1 => ⟨k + 1, by omega, by omega, ⟨?_, ws⟩, ?_, ?_, ?_⟩⟩
        · rw [r1 (by simpa using a1)]; simp
        · rw [r1 (by simpa using a1)]; simp
        · rw [r1 (by simpa using a1), ops_append, ops_one]
        · rw [r1 (by simpa using a1), ops_append, ops_one]
        · rw [r2 (by simpa using a1)]
        · rw [r2 (by simpa using a1)]; simp
        · rw [r2 (by simpa using a1)]
        · rw [r2 (by simpa using a1), ops_append, ops_one]
    · have : k = min s.rn 9 := by omega
      subst this
      exact ⟨(), rfl, rfl, rfl, rfl⟩
    · have : k = min s.rn 9 := by omega
      subst this
      exact ⟨(), rfl, rfl, rfl, rfl⟩
    · have e : s.ops = (s.run (min s.rn 9)).1 ++ List.replicate (s.run (min s.rn 9)).2.length popO := rfl
      have lr := lk (min s.rn 9)
      rw [e]
      generalize s.run (min s.rn 9) = z at *
      refine ⟨⟨0, Nat.zero_le _, rfl, by simp, by simp⟩, fun j hj => ⟨hM _ (by omega), fun h => ?_, fun h => ?_⟩⟩
      · have e2 : z.1 ++ List.replicate (j + 1) popO = (z.1 ++ List.replicate j popO) ++ [popO] := by rw [List.append_assoc, List.replicate_succ']
        refine ⟨⟨by rw [ops_length], rfl, hM _ (by simp; omega), by simp; omega⟩, j + 1, by omega, by omega, wrap_succ (by omega), ?_, ?_⟩
        · rw [e2]; simp; omega
        · rw [e2, ops_append _ [popO], ops_one]; rfl
      · have : j = z.2.length := by omega
        subst this
        exact ⟨⟨rfl, rfl⟩, trivial⟩

end Go.Proofs.Ytkfgmaecbclgfaa

/-
  Check of a whole script, of package validate and of the reference.
-/
namespace Go.Proofs.Ytkfgmaecbclgfaa
open Go.RowKit
set_option linter.unusedVariables false
set_option linter.unusedSimpArgs false
attribute [local irreducible] Ans AnsO AnsG AnsN AnsI

set_option maxRecDepth 4000
/-- a script in plain words -/
structure Scr where
  bits : Int
  c : Rc
  tw : Int
  th : Int
  ord : List Int
  ims : List Im
  ops : List Oq
def Scr.frame (s : Scr) : Int := frameE s.bits s.c s.tw s.th s.ord s.ims.length s.ops.length
def Scr.run (s : Scr) : Int × Int := opsE s.bits s.c s.tw s.th s.ord s.ims.length s.ops
end Go.Proofs.Ytkfgmaecbclgfaa

/-
  The law's sanity check; scripts as one thing.
-/
namespace Go.Proofs.Ytkfgmaecbclgfaa
open Go.RowKit
set_option linter.unusedVariables false
set_option linter.unusedSimpArgs false
attribute [local irreducible] Ans AnsO AnsG AnsN AnsI

set_option maxRecDepth 4000
theorem isI_is {n : Nat} {l : List Int} (h : n = l.length) : is l = is (ints (is l)) ∧ n = (is l).length := ⟨by rw [ints_is], by rw [is_length]; exact h⟩
end Go.Proofs.Ytkfgmaecbclgfaa

/-
  Numbers of scripts, and how many bytes they have.
-/
namespace Go.Proofs.Ytkfgmaecbclgfaa
open Go.RowKit
set_option linter.unusedVariables false
set_option linter.unusedSimpArgs false
attribute [local irreducible] Ans AnsO AnsG AnsN AnsI

set_option maxRecDepth 4000
def fitL (lo hi : Int) (l : List Int) : Bool := l.all fun v => decide (lo ≤ v ∧ v ≤ hi)
def fitR (size : Int) (sg : Bool) (v : Int) : Bool := if sg then decide (-(2 ^ (8 * size - 1).toNat) ≤ v ∧ v < 2 ^ (8 * size - 1).toNat) else decide (0 ≤ v ∧ v < 2 ^ (8 * size).toNat)
theorem all_take {f : Int → Bool} {l : List Int} {k : Nat} (h : k < l.length) : (l.take (k + 1)).all f = ((l.take k).all f && f l[k]) := by
  rw [List.take_succ_eq_append_getElem h, List.all_append]
  simp
theorem all_false {f : Int → Bool} {l : List Int} {k : Nat} (h : k < l.length) (hf : f l[k] = false) : l.all f = false := by
  rw [List.all_eq_false]
  exact ⟨l[k], List.getElem_mem h, by rw [hf]; simp⟩
theorem is_rd {l : List Int} {k : Nat} (h : k < l.length) : (is l)[k]? = some (.int .i64 l[k]) ∧ nAt (is l) k = l[k] := by
  have : (is l)[k]? = some (.int .i64 l[k]) := by simp [is, List.getElem?_eq_getElem h]
  exact ⟨this, by simp [nAt, this]⟩
def gamEa : Gam where
 pure := fun f xs =>
  if f = 68 then (match xs with | [.d (.int _ low), .d (.int _ high), .d (.sl n xs)] => some (RV.d (DV.bool (fitL low high (ints (xs))))) | _ => none) else
  if f = 40 then (match xs with | [.d (.int _ v), .d (.int _ size), .d (.bool sg)] => some (RV.d (DV.bool (fitR size sg v))) | _ => none) else
  none
 modes := fun f =>
  none
 proc := fun f xs bs =>
  none
 iter := fun f cs =>
  none

def script_fits_ann (low : Int) (high : Int) (l : List Int) : Ann := (Ann.seq Ann.leaf (Ann.seq (Ann.seq Ann.leaf (Ann.loop ⟨Nat, fun k => k ≤ l.length ∧ fitL low high (l.take k) = true, fun k => ⟨[(0, AV.one (Cl.d (DV.int .i64 low))), (1, AV.one (Cl.d (DV.int .i64 high))), (9, AV.one (Cl.d (DV.sl l.length (is l)))), (10, AV.one (Cl.d (DV.int .i64 ((l.length : Nat) : Int)))), (11, AV.one (Cl.d (DV.int .i64 ((k : Nat) : Int))))], []⟩, fun k => l.length - k⟩ fun k => Ann.leaf)) Ann.leaf))
theorem script_fits_vc (low : Int) (high : Int) (l : List Int) : vcg Try.prog gamEa 24 (bodyOf Try.f68) (script_fits_ann low high l) kn0 (start [RV.d (DV.int .i64 low), RV.d (DV.int .i64 high), RV.d (DV.sl l.length (is l))]) (post Try.prog Try.f68.results.toList (· = RV.d (DV.bool (fitL low high (ints (is l)))))) =
  (let zz0 := fun (k : Nat) => (k ≤ l.length ∧ fitL low high (l.take k) = true); let zz1 := (DV.int .i64 low = DV.int .i64 low); let zz2 := (DV.int .i64 high = DV.int .i64 high); let zz3 := (DV.sl l.length (is l) = DV.sl l.length (is l)); let zz4 := (DV.int .i64 ((l.length : Nat) : Int) = DV.int .i64 ((l.length : Nat) : Int)); let zz5 := (DV.bool (fitL low high (ints (is l)))); True ∧ True ∧ True ∧ True ∧ ((∃ k : Nat, (zz0 k) ∧ ((zz1 ∧ zz2 ∧ zz3 ∧ zz4 ∧ (DV.int .i64 0 = DV.int .i64 ((k : Nat) : Int)) ∧ True) ∧ (True))) ∧ ∀ k : Nat, (zz0 k) → True ∧ (((decide (((k : Nat) : Int) < ((l.length : Nat) : Int))) = true → (0 ≤ ((k : Nat) : Int) ∧ ((k : Nat) : Int) < ((l.length : Nat) : Int) ∧ ((k : Nat) : Int).toNat * 1 < (is l).length) ∧ (((is l)[((k : Nat) : Int).toNat * 1]? = some (DV.int .i64 (nAt (is l) (((k : Nat) : Int).toNat * 1)))) ∧ True) ∧ True ∧ True ∧ True ∧ True ∧ True ∧ (((decide ((nAt (is l) (((k : Nat) : Int).toNat * 1)) < low)) = false → True ∧ True ∧ True ∧ True ∧ (((decide ((nAt (is l) (((k : Nat) : Int).toNat * 1)) > high)) = true → True ∧ RV.d (DV.bool false) = RV.d zz5) ∧ ((decide ((nAt (is l) (((k : Nat) : Int).toNat * 1)) > high)) = false → True ∧ True ∧ ∃ k' : Nat, (k' ≤ l.length ∧ fitL low high (l.take k') = true) ∧ (l.length - k' < l.length - k) ∧ ((zz1 ∧ zz2 ∧ zz3 ∧ zz4 ∧ (DV.int .i64 (IntKind.wrap .i64 (((k : Nat) : Int) + (1 : Int))) = DV.int .i64 ((k' : Nat) : Int)) ∧ True) ∧ (True))))) ∧ ((decide ((nAt (is l) (((k : Nat) : Int).toNat * 1)) < low)) = (!false) → True ∧ True ∧ RV.d (DV.bool false) = RV.d zz5))) ∧ ((decide (((k : Nat) : Int) < ((l.length : Nat) : Int))) = false → True ∧ RV.d (DV.bool true) = RV.d zz5)))) := by kernel_rfl
theorem script_fits_ans (low : Int) (high : Int) (l : List Int) : Ans Try.prog 68 [RV.d (DV.int .i64 low), RV.d (DV.int .i64 high), RV.d (DV.sl l.length (is l))] (RV.d (DV.bool (fitL low high (ints (is l))))) :=
  ans_of_vcg (Γ := gamEa) (script_fits_ann low high l) mixed_ Try.func68 rfl (Nat.le_of_ble_eq_true rfl) fun hwf => by
    refine Eq.mpr (script_fits_vc low high l) ?_
    simp only [true_and, and_true, RV.d.injEq, RV.agg.injEq, RV.tup.injEq, DV.bool.injEq, DV.int.injEq, DV.sl.injEq, List.cons.injEq, forall_const, Bool.not_false, Bool.not_true, Bool.not_eq_true', Bool.not_eq_false', decide_eq_true_eq, decide_eq_false_iff_not, Int.toNat_natCast]
    simp only [ints_is]
    simp only [RV.wfs, RV.wf, DV.wf, maxLen] at hwf
    refine ⟨⟨0, ⟨Nat.zero_le _, rfl⟩, rfl⟩, fun k hk => ⟨fun hlt => ?_, fun hge => ?_⟩⟩
    · obtain ⟨k1, k2⟩ := hk
      have hk : k < l.length := by omega
      obtain ⟨q1, q2⟩ := is_rd hk
      have w1 : IntKind.wrap .i64 ((k : Int) + 1) = ((k + 1 : Nat) : Int) := by rw [IntWalk.i64_in _ ⟨by omega, by omega⟩]; omega
      simp only [Nat.mul_one, q2, w1]
      refine ⟨⟨by omega, by omega, by rw [is_length]; omega⟩, q1, fun h1 => ⟨fun h2 => ?_, fun h2 => ?_⟩, fun h1 => ?_⟩
      · exact (all_false hk (by simp; omega)).symm
      · exact ⟨k + 1, ⟨by omega, by unfold fitL at k2 ⊢; rw [all_take hk, k2]; simp; omega⟩, by omega, rfl⟩
      · exact (all_false hk (by simp; omega)).symm
    · obtain ⟨k1, k2⟩ := hk
      have : k = l.length := by omega
      subst this
      rw [List.take_length] at k2
      exact k2.symm

def script_short_ann (l : List Int) : Ann := Ann.leaf
theorem script_short_vc (l : List Int) : vcg Try.prog gamEa 5 (bodyOf Try.f36) (script_short_ann l) kn0 (start [RV.d (DV.sl l.length (is l))]) (post Try.prog Try.f36.results.toList (· = RV.d (DV.bool (fitL 0 255 (ints (is l)))))) =
  (let zz0 := (DV.bool (fitL (0 : Int) (255 : Int) (ints ((is l))))); True ∧ True ∧ (Ans Try.prog 68 [RV.d (DV.int .i64 0), RV.d (DV.int .i64 255), RV.d (DV.sl l.length (is l))] (RV.d zz0)) ∧ True ∧ RV.d zz0 = RV.d (DV.bool (fitL 0 255 (ints (is l))))) := by kernel_rfl
theorem script_short_ans (l : List Int) : Ans Try.prog 36 [RV.d (DV.sl l.length (is l))] (RV.d (DV.bool (fitL 0 255 (ints (is l))))) :=
  ans_of_vcg (Γ := gamEa) (script_short_ann l) mixed_ Try.func36 rfl (Nat.le_of_ble_eq_true rfl) fun hwf => by
    refine Eq.mpr (script_short_vc l) ?_
    simp only [true_and, and_true, RV.d.injEq, RV.agg.injEq, RV.tup.injEq, DV.bool.injEq, DV.int.injEq, DV.sl.injEq, List.cons.injEq, forall_const, Bool.not_false, Bool.not_true, Bool.not_eq_true', Bool.not_eq_false', decide_eq_true_eq, decide_eq_false_iff_not, Int.toNat_natCast]
    simp only [ints_is]
    have := script_fits_ans 0 255 l
    simp only [ints_is] at this
    exact this

def script_unsigned_ann (l : List Int) : Ann := Ann.leaf
theorem script_unsigned_vc (l : List Int) : vcg Try.prog gamEa 5 (bodyOf Try.f38) (script_unsigned_ann l) kn0 (start [RV.d (DV.sl l.length (is l))]) (post Try.prog Try.f38.results.toList (· = RV.d (DV.bool (fitL 0 4294967295 (ints (is l)))))) =
  (let zz0 := (DV.bool (fitL (0 : Int) (4294967295 : Int) (ints ((is l))))); True ∧ True ∧ (Ans Try.prog 68 [RV.d (DV.int .i64 0), RV.d (DV.int .i64 4294967295), RV.d (DV.sl l.length (is l))] (RV.d zz0)) ∧ True ∧ RV.d zz0 = RV.d (DV.bool (fitL 0 4294967295 (ints (is l))))) := by kernel_rfl
theorem script_unsigned_ans (l : List Int) : Ans Try.prog 38 [RV.d (DV.sl l.length (is l))] (RV.d (DV.bool (fitL 0 4294967295 (ints (is l))))) :=
  ans_of_vcg (Γ := gamEa) (script_unsigned_ann l) mixed_ Try.func38 rfl (Nat.le_of_ble_eq_true rfl) fun hwf => by
    refine Eq.mpr (script_unsigned_vc l) ?_
    simp only [true_and, and_true, RV.d.injEq, RV.agg.injEq, RV.tup.injEq, DV.bool.injEq, DV.int.injEq, DV.sl.injEq, List.cons.injEq, forall_const, Bool.not_false, Bool.not_true, Bool.not_eq_true', Bool.not_eq_false', decide_eq_true_eq, decide_eq_false_iff_not, Int.toNat_natCast]
    simp only [ints_is]
    have := script_fits_ans 0 4294967295 l
    simp only [ints_is] at this
    exact this

def script_signed_ann (l : List Int) : Ann := Ann.leaf
theorem script_signed_vc (l : List Int) : vcg Try.prog gamEa 5 (bodyOf Try.f37) (script_signed_ann l) kn0 (start [RV.d (DV.sl l.length (is l))]) (post Try.prog Try.f37.results.toList (· = RV.d (DV.bool (fitL (-2147483648) 2147483647 (ints (is l)))))) =
  (let zz0 := (DV.bool (fitL (-2147483648 : Int) (2147483647 : Int) (ints ((is l))))); True ∧ True ∧ (Ans Try.prog 68 [RV.d (DV.int .i64 (-2147483648 : Int)), RV.d (DV.int .i64 2147483647), RV.d (DV.sl l.length (is l))] (RV.d zz0)) ∧ True ∧ RV.d zz0 = RV.d (DV.bool (fitL (-2147483648) 2147483647 (ints (is l))))) := by kernel_rfl
theorem script_signed_ans (l : List Int) : Ans Try.prog 37 [RV.d (DV.sl l.length (is l))] (RV.d (DV.bool (fitL (-2147483648) 2147483647 (ints (is l))))) :=
  ans_of_vcg (Γ := gamEa) (script_signed_ann l) mixed_ Try.func37 rfl (Nat.le_of_ble_eq_true rfl) fun hwf => by
    refine Eq.mpr (script_signed_vc l) ?_
    simp only [true_and, and_true, RV.d.injEq, RV.agg.injEq, RV.tup.injEq, DV.bool.injEq, DV.int.injEq, DV.sl.injEq, List.cons.injEq, forall_const, Bool.not_false, Bool.not_true, Bool.not_eq_true', Bool.not_eq_false', decide_eq_true_eq, decide_eq_false_iff_not, Int.toNat_natCast]
    simp only [ints_is]
    have := script_fits_ans (-2147483648) 2147483647 l
    simp only [ints_is] at this
    exact this

end Go.Proofs.Ytkfgmaecbclgfaa

/-
  The bytes of scripts in plain words.
-/
namespace Go.Proofs.Ytkfgmaecbclgfaa
open Go.RowKit
set_option linter.unusedVariables false
set_option linter.unusedSimpArgs false

/-! what is read from lists of images, operations, pixels: by name, so that printed texts stay short -/
def imQ (xs : List DV) (i : Nat) : Im := ⟨(nAt xs (i)), (nAt xs (i + 1)), (bAt xs (i + 1 + 1)), ⟨(nAt xs (i + 1 + 1 + 1)), (nAt xs (i + 1 + 1 + 1 + 1)), (nAt xs (i + 1 + 1 + 1 + 1 + 1)), (nAt xs (i + 1 + 1 + 1 + 1 + 1 + 1)), (nAt xs (i + 1 + 1 + 1 + 1 + 1 + 1 + 1))⟩, ⟨(nAt xs (i + 1 + 1 + 1 + 1 + 1 + 1 + 1 + 1)), (nAt xs (i + 1 + 1 + 1 + 1 + 1 + 1 + 1 + 1 + 1)), (nAt xs (i + 1 + 1 + 1 + 1 + 1 + 1 + 1 + 1 + 1 + 1)), (lAt xs (i + 1 + 1 + 1 + 1 + 1 + 1 + 1 + 1 + 1 + 1 + 1)), (cAt xs (i + 1 + 1 + 1 + 1 + 1 + 1 + 1 + 1 + 1 + 1 + 1))⟩, ⟨(nAt xs (i + 1 + 1 + 1 + 1 + 1 + 1 + 1 + 1 + 1 + 1 + 1 + 1)), (nAt xs (i + 1 + 1 + 1 + 1 + 1 + 1 + 1 + 1 + 1 + 1 + 1 + 1 + 1)), (nAt xs (i + 1 + 1 + 1 + 1 + 1 + 1 + 1 + 1 + 1 + 1 + 1 + 1 + 1 + 1)), (lAt xs (i + 1 + 1 + 1 + 1 + 1 + 1 + 1 + 1 + 1 + 1 + 1 + 1 + 1 + 1 + 1)), (cAt xs (i + 1 + 1 + 1 + 1 + 1 + 1 + 1 + 1 + 1 + 1 + 1 + 1 + 1 + 1 + 1))⟩, ⟨(nAt xs (i + 1 + 1 + 1 + 1 + 1 + 1 + 1 + 1 + 1 + 1 + 1 + 1 + 1 + 1 + 1 + 1)), (nAt xs (i + 1 + 1 + 1 + 1 + 1 + 1 + 1 + 1 + 1 + 1 + 1 + 1 + 1 + 1 + 1 + 1 + 1)), (nAt xs (i + 1 + 1 + 1 + 1 + 1 + 1 + 1 + 1 + 1 + 1 + 1 + 1 + 1 + 1 + 1 + 1 + 1 + 1)), (lAt xs (i + 1 + 1 + 1 + 1 + 1 + 1 + 1 + 1 + 1 + 1 + 1 + 1 + 1 + 1 + 1 + 1 + 1 + 1 + 1)), (cAt xs (i + 1 + 1 + 1 + 1 + 1 + 1 + 1 + 1 + 1 + 1 + 1 + 1 + 1 + 1 + 1 + 1 + 1 + 1 + 1))⟩, ⟨(nAt xs (i + 1 + 1 + 1 + 1 + 1 + 1 + 1 + 1 + 1 + 1 + 1 + 1 + 1 + 1 + 1 + 1 + 1 + 1 + 1 + 1)), (nAt xs (i + 1 + 1 + 1 + 1 + 1 + 1 + 1 + 1 + 1 + 1 + 1 + 1 + 1 + 1 + 1 + 1 + 1 + 1 + 1 + 1 + 1)), (nAt xs (i + 1 + 1 + 1 + 1 + 1 + 1 + 1 + 1 + 1 + 1 + 1 + 1 + 1 + 1 + 1 + 1 + 1 + 1 + 1 + 1 + 1 + 1)), (lAt xs (i + 1 + 1 + 1 + 1 + 1 + 1 + 1 + 1 + 1 + 1 + 1 + 1 + 1 + 1 + 1 + 1 + 1 + 1 + 1 + 1 + 1 + 1 + 1)), (cAt xs (i + 1 + 1 + 1 + 1 + 1 + 1 + 1 + 1 + 1 + 1 + 1 + 1 + 1 + 1 + 1 + 1 + 1 + 1 + 1 + 1 + 1 + 1 + 1))⟩, ⟨(nAt xs (i + 1 + 1 + 1 + 1 + 1 + 1 + 1 + 1 + 1 + 1 + 1 + 1 + 1 + 1 + 1 + 1 + 1 + 1 + 1 + 1 + 1 + 1 + 1 + 1)), (nAt xs (i + 1 + 1 + 1 + 1 + 1 + 1 + 1 + 1 + 1 + 1 + 1 + 1 + 1 + 1 + 1 + 1 + 1 + 1 + 1 + 1 + 1 + 1 + 1 + 1 + 1)), (nAt xs (i + 1 + 1 + 1 + 1 + 1 + 1 + 1 + 1 + 1 + 1 + 1 + 1 + 1 + 1 + 1 + 1 + 1 + 1 + 1 + 1 + 1 + 1 + 1 + 1 + 1 + 1)), (lAt xs (i + 1 + 1 + 1 + 1 + 1 + 1 + 1 + 1 + 1 + 1 + 1 + 1 + 1 + 1 + 1 + 1 + 1 + 1 + 1 + 1 + 1 + 1 + 1 + 1 + 1 + 1 + 1)), (cAt xs (i + 1 + 1 + 1 + 1 + 1 + 1 + 1 + 1 + 1 + 1 + 1 + 1 + 1 + 1 + 1 + 1 + 1 + 1 + 1 + 1 + 1 + 1 + 1 + 1 + 1 + 1 + 1))⟩⟩
def imQr (xs : List DV) (i : Nat) : Prop := (xs[i]? = some (DV.int .i64 (nAt xs (i)))) ∧ (xs[i + 1]? = some (DV.int .i64 (nAt xs (i + 1)))) ∧ (xs[i + 1 + 1]? = some (DV.bool (bAt xs (i + 1 + 1)))) ∧ (xs[i + 1 + 1 + 1]? = some (DV.int .u16 (nAt xs (i + 1 + 1 + 1)))) ∧ (xs[i + 1 + 1 + 1 + 1]? = some (DV.int .u16 (nAt xs (i + 1 + 1 + 1 + 1)))) ∧ (xs[i + 1 + 1 + 1 + 1 + 1]? = some (DV.int .u16 (nAt xs (i + 1 + 1 + 1 + 1 + 1)))) ∧ (xs[i + 1 + 1 + 1 + 1 + 1 + 1]? = some (DV.int .u16 (nAt xs (i + 1 + 1 + 1 + 1 + 1 + 1)))) ∧ (xs[i + 1 + 1 + 1 + 1 + 1 + 1 + 1]? = some (DV.int .u16 (nAt xs (i + 1 + 1 + 1 + 1 + 1 + 1 + 1)))) ∧ (xs[i + 1 + 1 + 1 + 1 + 1 + 1 + 1 + 1]? = some (DV.int .i64 (nAt xs (i + 1 + 1 + 1 + 1 + 1 + 1 + 1 + 1)))) ∧ (xs[i + 1 + 1 + 1 + 1 + 1 + 1 + 1 + 1 + 1]? = some (DV.int .i64 (nAt xs (i + 1 + 1 + 1 + 1 + 1 + 1 + 1 + 1 + 1)))) ∧ (xs[i + 1 + 1 + 1 + 1 + 1 + 1 + 1 + 1 + 1 + 1]? = some (DV.int .i64 (nAt xs (i + 1 + 1 + 1 + 1 + 1 + 1 + 1 + 1 + 1 + 1)))) ∧ (xs[i + 1 + 1 + 1 + 1 + 1 + 1 + 1 + 1 + 1 + 1 + 1]? = some (DV.sl (lAt xs (i + 1 + 1 + 1 + 1 + 1 + 1 + 1 + 1 + 1 + 1 + 1)) (cAt xs (i + 1 + 1 + 1 + 1 + 1 + 1 + 1 + 1 + 1 + 1 + 1)))) ∧ (xs[i + 1 + 1 + 1 + 1 + 1 + 1 + 1 + 1 + 1 + 1 + 1 + 1]? = some (DV.int .i64 (nAt xs (i + 1 + 1 + 1 + 1 + 1 + 1 + 1 + 1 + 1 + 1 + 1 + 1)))) ∧ (xs[i + 1 + 1 + 1 + 1 + 1 + 1 + 1 + 1 + 1 + 1 + 1 + 1 + 1]? = some (DV.int .i64 (nAt xs (i + 1 + 1 + 1 + 1 + 1 + 1 + 1 + 1 + 1 + 1 + 1 + 1 + 1)))) ∧ (xs[i + 1 + 1 + 1 + 1 + 1 + 1 + 1 + 1 + 1 + 1 + 1 + 1 + 1 + 1]? = some (DV.int .i64 (nAt xs (i + 1 + 1 + 1 + 1 + 1 + 1 + 1 + 1 + 1 + 1 + 1 + 1 + 1 + 1)))) ∧ (xs[i + 1 + 1 + 1 + 1 + 1 + 1 + 1 + 1 + 1 + 1 + 1 + 1 + 1 + 1 + 1]? = some (DV.sl (lAt xs (i + 1 + 1 + 1 + 1 + 1 + 1 + 1 + 1 + 1 + 1 + 1 + 1 + 1 + 1 + 1)) (cAt xs (i + 1 + 1 + 1 + 1 + 1 + 1 + 1 + 1 + 1 + 1 + 1 + 1 + 1 + 1 + 1)))) ∧ (xs[i + 1 + 1 + 1 + 1 + 1 + 1 + 1 + 1 + 1 + 1 + 1 + 1 + 1 + 1 + 1 + 1]? = some (DV.int .i64 (nAt xs (i + 1 + 1 + 1 + 1 + 1 + 1 + 1 + 1 + 1 + 1 + 1 + 1 + 1 + 1 + 1 + 1)))) ∧ (xs[i + 1 + 1 + 1 + 1 + 1 + 1 + 1 + 1 + 1 + 1 + 1 + 1 + 1 + 1 + 1 + 1 + 1]? = some (DV.int .i64 (nAt xs (i + 1 + 1 + 1 + 1 + 1 + 1 + 1 + 1 + 1 + 1 + 1 + 1 + 1 + 1 + 1 + 1 + 1)))) ∧ (xs[i + 1 + 1 + 1 + 1 + 1 + 1 + 1 + 1 + 1 + 1 + 1 + 1 + 1 + 1 + 1 + 1 + 1 + 1]? = some (DV.int .i64 (nAt xs (i + 1 + 1 + 1 + 1 + 1 + 1 + 1 + 1 + 1 + 1 + 1 + 1 + 1 + 1 + 1 + 1 + 1 + 1)))) ∧ (xs[i + 1 + 1 + 1 + 1 + 1 + 1 + 1 + 1 + 1 + 1 + 1 + 1 + 1 + 1 + 1 + 1 + 1 + 1 + 1]? = some (DV.sl (lAt xs (i + 1 + 1 + 1 + 1 + 1 + 1 + 1 + 1 + 1 + 1 + 1 + 1 + 1 + 1 + 1 + 1 + 1 + 1 + 1)) (cAt xs (i + 1 + 1 + 1 + 1 + 1 + 1 + 1 + 1 + 1 + 1 + 1 + 1 + 1 + 1 + 1 + 1 + 1 + 1 + 1)))) ∧ (xs[i + 1 + 1 + 1 + 1 + 1 + 1 + 1 + 1 + 1 + 1 + 1 + 1 + 1 + 1 + 1 + 1 + 1 + 1 + 1 + 1]? = some (DV.int .i64 (nAt xs (i + 1 + 1 + 1 + 1 + 1 + 1 + 1 + 1 + 1 + 1 + 1 + 1 + 1 + 1 + 1 + 1 + 1 + 1 + 1 + 1)))) ∧ (xs[i + 1 + 1 + 1 + 1 + 1 + 1 + 1 + 1 + 1 + 1 + 1 + 1 + 1 + 1 + 1 + 1 + 1 + 1 + 1 + 1 + 1]? = some (DV.int .i64 (nAt xs (i + 1 + 1 + 1 + 1 + 1 + 1 + 1 + 1 + 1 + 1 + 1 + 1 + 1 + 1 + 1 + 1 + 1 + 1 + 1 + 1 + 1)))) ∧ (xs[i + 1 + 1 + 1 + 1 + 1 + 1 + 1 + 1 + 1 + 1 + 1 + 1 + 1 + 1 + 1 + 1 + 1 + 1 + 1 + 1 + 1 + 1]? = some (DV.int .i64 (nAt xs (i + 1 + 1 + 1 + 1 + 1 + 1 + 1 + 1 + 1 + 1 + 1 + 1 + 1 + 1 + 1 + 1 + 1 + 1 + 1 + 1 + 1 + 1)))) ∧ (xs[i + 1 + 1 + 1 + 1 + 1 + 1 + 1 + 1 + 1 + 1 + 1 + 1 + 1 + 1 + 1 + 1 + 1 + 1 + 1 + 1 + 1 + 1 + 1]? = some (DV.sl (lAt xs (i + 1 + 1 + 1 + 1 + 1 + 1 + 1 + 1 + 1 + 1 + 1 + 1 + 1 + 1 + 1 + 1 + 1 + 1 + 1 + 1 + 1 + 1 + 1)) (cAt xs (i + 1 + 1 + 1 + 1 + 1 + 1 + 1 + 1 + 1 + 1 + 1 + 1 + 1 + 1 + 1 + 1 + 1 + 1 + 1 + 1 + 1 + 1 + 1)))) ∧ (xs[i + 1 + 1 + 1 + 1 + 1 + 1 + 1 + 1 + 1 + 1 + 1 + 1 + 1 + 1 + 1 + 1 + 1 + 1 + 1 + 1 + 1 + 1 + 1 + 1]? = some (DV.int .i64 (nAt xs (i + 1 + 1 + 1 + 1 + 1 + 1 + 1 + 1 + 1 + 1 + 1 + 1 + 1 + 1 + 1 + 1 + 1 + 1 + 1 + 1 + 1 + 1 + 1 + 1)))) ∧ (xs[i + 1 + 1 + 1 + 1 + 1 + 1 + 1 + 1 + 1 + 1 + 1 + 1 + 1 + 1 + 1 + 1 + 1 + 1 + 1 + 1 + 1 + 1 + 1 + 1 + 1]? = some (DV.int .i64 (nAt xs (i + 1 + 1 + 1 + 1 + 1 + 1 + 1 + 1 + 1 + 1 + 1 + 1 + 1 + 1 + 1 + 1 + 1 + 1 + 1 + 1 + 1 + 1 + 1 + 1 + 1)))) ∧ (xs[i + 1 + 1 + 1 + 1 + 1 + 1 + 1 + 1 + 1 + 1 + 1 + 1 + 1 + 1 + 1 + 1 + 1 + 1 + 1 + 1 + 1 + 1 + 1 + 1 + 1 + 1]? = some (DV.int .i64 (nAt xs (i + 1 + 1 + 1 + 1 + 1 + 1 + 1 + 1 + 1 + 1 + 1 + 1 + 1 + 1 + 1 + 1 + 1 + 1 + 1 + 1 + 1 + 1 + 1 + 1 + 1 + 1)))) ∧ (xs[i + 1 + 1 + 1 + 1 + 1 + 1 + 1 + 1 + 1 + 1 + 1 + 1 + 1 + 1 + 1 + 1 + 1 + 1 + 1 + 1 + 1 + 1 + 1 + 1 + 1 + 1 + 1]? = some (DV.sl (lAt xs (i + 1 + 1 + 1 + 1 + 1 + 1 + 1 + 1 + 1 + 1 + 1 + 1 + 1 + 1 + 1 + 1 + 1 + 1 + 1 + 1 + 1 + 1 + 1 + 1 + 1 + 1 + 1)) (cAt xs (i + 1 + 1 + 1 + 1 + 1 + 1 + 1 + 1 + 1 + 1 + 1 + 1 + 1 + 1 + 1 + 1 + 1 + 1 + 1 + 1 + 1 + 1 + 1 + 1 + 1 + 1 + 1)))) ∧ True
def oqQ (xs : List DV) (i : Nat) : Oq := ⟨(nAt xs (i)), (nAt xs (i + 1)), (nAt xs (i + 1 + 1)), (nAt xs (i + 1 + 1 + 1)), (nAt xs (i + 1 + 1 + 1 + 1)), (nAt xs (i + 1 + 1 + 1 + 1 + 1)), (nAt xs (i + 1 + 1 + 1 + 1 + 1 + 1)), (nAt xs (i + 1 + 1 + 1 + 1 + 1 + 1 + 1)), (nAt xs (i + 1 + 1 + 1 + 1 + 1 + 1 + 1 + 1)), (nAt xs (i + 1 + 1 + 1 + 1 + 1 + 1 + 1 + 1 + 1)), (bAt xs (i + 1 + 1 + 1 + 1 + 1 + 1 + 1 + 1 + 1 + 1)), (bAt xs (i + 1 + 1 + 1 + 1 + 1 + 1 + 1 + 1 + 1 + 1 + 1))⟩
def oqQr (xs : List DV) (i : Nat) : Prop := (xs[i]? = some (DV.int .i64 (nAt xs (i)))) ∧ (xs[i + 1]? = some (DV.int .i64 (nAt xs (i + 1)))) ∧ (xs[i + 1 + 1]? = some (DV.int .i64 (nAt xs (i + 1 + 1)))) ∧ (xs[i + 1 + 1 + 1]? = some (DV.int .i64 (nAt xs (i + 1 + 1 + 1)))) ∧ (xs[i + 1 + 1 + 1 + 1]? = some (DV.int .i64 (nAt xs (i + 1 + 1 + 1 + 1)))) ∧ (xs[i + 1 + 1 + 1 + 1 + 1]? = some (DV.int .i64 (nAt xs (i + 1 + 1 + 1 + 1 + 1)))) ∧ (xs[i + 1 + 1 + 1 + 1 + 1 + 1]? = some (DV.int .i64 (nAt xs (i + 1 + 1 + 1 + 1 + 1 + 1)))) ∧ (xs[i + 1 + 1 + 1 + 1 + 1 + 1 + 1]? = some (DV.int .u16 (nAt xs (i + 1 + 1 + 1 + 1 + 1 + 1 + 1)))) ∧ (xs[i + 1 + 1 + 1 + 1 + 1 + 1 + 1 + 1]? = some (DV.int .i64 (nAt xs (i + 1 + 1 + 1 + 1 + 1 + 1 + 1 + 1)))) ∧ (xs[i + 1 + 1 + 1 + 1 + 1 + 1 + 1 + 1 + 1]? = some (DV.int .i64 (nAt xs (i + 1 + 1 + 1 + 1 + 1 + 1 + 1 + 1 + 1)))) ∧ (xs[i + 1 + 1 + 1 + 1 + 1 + 1 + 1 + 1 + 1 + 1]? = some (DV.bool (bAt xs (i + 1 + 1 + 1 + 1 + 1 + 1 + 1 + 1 + 1 + 1)))) ∧ (xs[i + 1 + 1 + 1 + 1 + 1 + 1 + 1 + 1 + 1 + 1 + 1]? = some (DV.bool (bAt xs (i + 1 + 1 + 1 + 1 + 1 + 1 + 1 + 1 + 1 + 1 + 1)))) ∧ True
def pxQ (xs : List DV) (i : Nat) : Px := ⟨(nAt xs (i)), (nAt xs (i + 1)), (nAt xs (i + 1 + 1)), (nAt xs (i + 1 + 1 + 1)), (nAt xs (i + 1 + 1 + 1 + 1))⟩
def pxQr (xs : List DV) (i : Nat) : Prop := (xs[i]? = some (DV.int .u16 (nAt xs (i)))) ∧ (xs[i + 1]? = some (DV.int .u16 (nAt xs (i + 1)))) ∧ (xs[i + 1 + 1]? = some (DV.int .u16 (nAt xs (i + 1 + 1)))) ∧ (xs[i + 1 + 1 + 1]? = some (DV.int .u16 (nAt xs (i + 1 + 1 + 1)))) ∧ (xs[i + 1 + 1 + 1 + 1]? = some (DV.int .u16 (nAt xs (i + 1 + 1 + 1 + 1)))) ∧ True
def imC (m : Im) : List Cl := [Cl.d (DV.int .i64 m.w), Cl.d (DV.int .i64 m.h), Cl.d (DV.bool m.so), Cl.d (DV.int .u16 m.c.a), Cl.d (DV.int .u16 m.c.b), Cl.d (DV.int .u16 m.c.c), Cl.d (DV.int .u16 m.c.al), Cl.d (DV.int .u16 m.c.f), Cl.d (DV.int .i64 m.p0.w), Cl.d (DV.int .i64 m.p0.h), Cl.d (DV.int .i64 m.p0.s), Cl.d (DV.sl m.p0.n m.p0.xs), Cl.d (DV.int .i64 m.p1.w), Cl.d (DV.int .i64 m.p1.h), Cl.d (DV.int .i64 m.p1.s), Cl.d (DV.sl m.p1.n m.p1.xs), Cl.d (DV.int .i64 m.p2.w), Cl.d (DV.int .i64 m.p2.h), Cl.d (DV.int .i64 m.p2.s), Cl.d (DV.sl m.p2.n m.p2.xs), Cl.d (DV.int .i64 m.p3.w), Cl.d (DV.int .i64 m.p3.h), Cl.d (DV.int .i64 m.p3.s), Cl.d (DV.sl m.p3.n m.p3.xs), Cl.d (DV.int .i64 m.p4.w), Cl.d (DV.int .i64 m.p4.h), Cl.d (DV.int .i64 m.p4.s), Cl.d (DV.sl m.p4.n m.p4.xs)]
def oqC (m : Oq) : List Cl := [Cl.d (DV.int .i64 m.kind), Cl.d (DV.int .i64 m.image), Cl.d (DV.int .i64 m.x), Cl.d (DV.int .i64 m.y), Cl.d (DV.int .i64 m.mask), Cl.d (DV.int .i64 m.mx), Cl.d (DV.int .i64 m.my), Cl.d (DV.int .u16 m.opac), Cl.d (DV.int .i64 m.oper), Cl.d (DV.int .i64 m.mode), Cl.d (DV.bool m.iso), Cl.d (DV.bool m.kno)]
def oqD (m : Oq) : AV := AV.agg [Cl.d (DV.int .i64 m.kind), Cl.d (DV.int .i64 m.image), Cl.d (DV.int .i64 m.x), Cl.d (DV.int .i64 m.y), Cl.d (DV.int .i64 m.mask), Cl.d (DV.int .i64 m.mx), Cl.d (DV.int .i64 m.my), Cl.d (DV.int .u16 m.opac), Cl.d (DV.int .i64 m.oper), Cl.d (DV.int .i64 m.mode), Cl.d (DV.bool m.iso), Cl.d (DV.bool m.kno)]
def pxC (m : Px) : List Cl := [Cl.d (DV.int .u16 m.a), Cl.d (DV.int .u16 m.b), Cl.d (DV.int .u16 m.c), Cl.d (DV.int .u16 m.al), Cl.d (DV.int .u16 m.f)]
def pxD (m : Px) : AV := AV.agg [Cl.d (DV.int .u16 m.a), Cl.d (DV.int .u16 m.b), Cl.d (DV.int .u16 m.c), Cl.d (DV.int .u16 m.al), Cl.d (DV.int .u16 m.f)]
def byI (v : Int) (i : Nat) : Int := IntKind.wrap .u8 (Int.fdiv v (2 ^ (8 * i)))
/-- a number in n bytes, the greatest first -/
def beI : Nat → Int → List Int
  | 0, _ => []
  | n + 1, v => byI v n :: beI n v
theorem beI_len (v : Int) : ∀ n, (beI n v).length = n
  | 0 => rfl
  | n + 1 => by simp [beI, beI_len v n]
def u8s (l : List Int) : List DV := l.map (.int .u8)
theorem u8s_len (l : List Int) : (u8s l).length = l.length := by simp [u8s]
theorem byI_eq (v : Int) {i : Nat} (h : i < 8) : IntKind.wrap .u8 (Int.fdiv v (2 ^ min (IntKind.wrap .i64 (8 * (i : Int))).toNat 64)) = byI v i := by
  have : IntKind.wrap .i64 (8 * (i : Int)) = ((8 * i : Nat) : Int) := by rw [IntWalk.i64_in _ ⟨by omega, by omega⟩]; omega
  rw [this, Int.toNat_natCast, Nat.min_eq_left (by omega)]
  rfl
def putL (n : Nat) (l : List Int) : List Int := l.flatMap (beI n)
theorem putL_len (n : Nat) (l : List Int) : (putL n l).length = l.length * n := by
  induction l with
  | nil => simp [putL]
  | cons a l ih => simp only [putL, List.flatMap_cons, List.length_append, beI_len, List.length_cons] at ih ⊢; rw [ih, Nat.add_mul]; omega
theorem putL_take {n : Nat} {l : List Int} {k : Nat} (h : k < l.length) : putL n (l.take (k + 1)) = putL n (l.take k) ++ beI n l[k] := by
  unfold putL
  rw [List.take_succ_eq_append_getElem h, List.flatMap_append]
  simp
def pxB (p : Px) : List Int := putL 2 [p.a, p.b, p.c, p.al, p.f]
def imB_ (m : Im) : List Int := if m.so then putL 1 [1] ++ putL 4 [m.w, m.h] ++ pxB m.c else putL 1 [0] ++ putL 4 [m.w, m.h] ++ m.pixels.flatMap pxB
def flagO (o : Oq) : Int := (if o.iso then 1 else 0) + (if o.kno then 2 else 0)
def opB (o : Oq) : List Int := putL 1 [o.kind, o.image] ++ putL 4 [o.x, o.y] ++ putL 1 [o.mask] ++ putL 4 [o.mx, o.my] ++ putL 2 [o.opac] ++ putL 1 [o.oper, o.mode, flagO o]
def encB (s : Scr) : List Int := [76, 67] ++ putL 1 [s.bits] ++ putL 4 [s.c.a, s.c.b, s.c.c, s.c.d, s.tw, s.th, (s.ord.length : Int)] ++ putL 4 s.ord ++ putL 1 [(s.ims.length : Int)] ++ s.ims.flatMap imB_ ++ putL 2 [(s.ops.length : Int)] ++ s.ops.flatMap opB
theorem pxB_len (p : Px) : (pxB p).length = 10 := by rw [pxB, putL_len]; rfl
theorem opB_len (o : Oq) : (opB o).length = 24 := by simp [opB, putL_len]
def sizeIm (m : Im) : Int := if m.so then 19 else 9 + 10 * (m.w * m.h)
def sizeIms : List Im → Int
  | [] => 0
  | m :: l => sizeIm m + sizeIms l
theorem sizeIms_app : ∀ (l m : List Im), sizeIms (l ++ m) = sizeIms l + sizeIms m
  | [], m => by simp [sizeIms]
  | a :: l, m => by rw [List.cons_append, sizeIms, sizeIms, sizeIms_app l m]; omega
theorem imB_len {m : Im} (h : m.formed = true) : ((imB_ m).length : Int) = sizeIm m := by
  have hp := Im.pixels_len h
  unfold imB_ sizeIm
  split
  · simp [putL_len, pxB_len]
  · have e : (m.pixels.flatMap pxB).length = m.pixels.length * 10 := by
      induction m.pixels with
      | nil => simp
      | cons p l ih => simp only [List.flatMap_cons, List.length_append, pxB_len, List.length_cons]; rw [ih, Nat.add_mul]; omega
    simp only [List.length_append, putL_len, e, List.length_cons, List.length_nil]
    omega
def opOk (o : Oq) : Bool := fitL 0 255 [o.kind, o.image, o.mask, o.oper, o.mode] && fitL (-2147483648) 2147483647 [o.x, o.y, o.mx, o.my]
def encHd (s : Scr) : Bool :=
  fitL 0 255 [s.bits] && fitL (-2147483648) 2147483647 [s.c.a, s.c.b, s.c.c, s.c.d] && fitL 0 4294967295 [s.tw, s.th] && fitL 0 4294967295 s.ord && decide (s.ims.length ≤ 64) && decide (s.ops.length ≤ 4096)
def sizeS (s : Scr) (l : List Im) : Int := 34 + 4 * (s.ord.length : Int) + 24 * (s.ops.length : Int) + sizeIms l
def encOk (s : Scr) : Bool := encHd s && s.ims.all Im.formed && s.ops.all opOk && decide (sizeS s s.ims ≤ 67108864)
def encS (s : Scr) : List Int × Int := if encOk s then (encB s, 0) else ([], 19)
end Go.Proofs.Ytkfgmaecbclgfaa

/-
  The writer of scripts.
-/
namespace Go.Proofs.Ytkfgmaecbclgfaa
open Go.RowKit
set_option linter.unusedVariables false
set_option linter.unusedSimpArgs false
attribute [local irreducible] Ans AnsO AnsG AnsN AnsI

set_option maxRecDepth 4000
theorem pxBs_len (l : List Px) : (l.flatMap pxB).length = l.length * 10 := by
  induction l with
  | nil => simp
  | cons p l ih => simp only [List.flatMap_cons, List.length_append, pxB_len, List.length_cons]; rw [ih, Nat.add_mul]; omega
theorem ints_cons (k : IntKind) (n : Int) (l : List DV) : ints (.int k n :: l) = n :: ints l := rfl
theorem ints_nil : ints [] = [] := rfl
theorem sizeIm_le' {m : Im} (h : m.formed = true) : m.w * m.h ≤ 16777216 := by
  have h1 : fitsP m.w m.h = true := by unfold Im.formed at h; exact (Bool.and_eq_true_iff.1 h).1
  simp only [fitsP, Bool.and_eq_true, decide_eq_true_eq] at h1
  omega
theorem ints_u8s (l : List Int) : ints (u8s l) = l := by simp [ints, u8s, Function.comp_def]
theorem beI_take {v : Int} : ∀ {n j : Nat}, j < n → (beI n v).take (j + 1) = (beI n v).take j ++ [byI v (n - 1 - j)]
  | n + 1, 0, _ => by simp [beI]
  | n + 1, j + 1, h => by
    have := @beI_take v n j (by omega)
    simp only [beI, List.take_succ_cons, this, List.cons_append]
    rw [show n + 1 - 1 - (j + 1) = n - 1 - j by omega]
def gamEb : Gam where
 pure := fun f xs =>
  if f = 65 then (match xs with | [] => some (RV.tup [RV.tup [RV.d (DV.int .i64 37), RV.d (DV.int .i64 5)]]) | [.agg [.int _ w, .int _ h, .bool so, .int _ c0, .int _ c1, .int _ c2, .int _ ca, .int _ cf, .int _ w0, .int _ h0, .int _ s0, .sl n0 xs0, .int _ w1, .int _ h1, .int _ s1, .sl n1 xs1, .int _ w2, .int _ h2, .int _ s2, .sl n2 xs2, .int _ w3, .int _ h3, .int _ s3, .sl n3 xs3, .int _ w4, .int _ h4, .int _ s4, .sl n4 xs4]] => some (RV.d (DV.sl ((Im.pixels ⟨w, h, so, ⟨c0, c1, c2, ca, cf⟩, ⟨w0, h0, s0, n0, xs0⟩, ⟨w1, h1, s1, n1, xs1⟩, ⟨w2, h2, s2, n2, xs2⟩, ⟨w3, h3, s3, n3, xs3⟩, ⟨w4, h4, s4, n4, xs4⟩⟩).length) (pxs (Im.pixels ⟨w, h, so, ⟨c0, c1, c2, ca, cf⟩, ⟨w0, h0, s0, n0, xs0⟩, ⟨w1, h1, s1, n1, xs1⟩, ⟨w2, h2, s2, n2, xs2⟩, ⟨w3, h3, s3, n3, xs3⟩, ⟨w4, h4, s4, n4, xs4⟩⟩)))) | _ => none) else
  if f = 66 then (match xs with | [.agg [.int _ okind, .int _ oimage, .int _ ox, .int _ oy, .int _ omask, .int _ omx, .int _ omy, .int _ oopac, .int _ ooper, .int _ omode, .bool oiso, .bool okno]] => some (RV.d (DV.int .i64 (flagO ⟨okind, oimage, ox, oy, omask, omx, omy, oopac, ooper, omode, oiso, okno⟩))) | _ => none) else
  none
 modes := fun f =>
  if f = 29 then some ([false, true, true], 1, 1) else
  if f = 64 then some ([false, true], 1, 1) else
  none
 proc := fun f xs bs =>
  if f = 29 then (match xs, bs with | [AV.one (Cl.ptr 0 0), AV.one (Cl.d (DV.int _ n)), AV.one (Cl.d (DV.sl ln lxs))], [Bx.cells [Cl.ref 1 bn], Bx.row _ _ bxs] => some ⟨AV.tup [], [Bx.cells [Cl.ref 1 (((ints bxs) ++ putL n.toNat (ints lxs)).length)], Bx.row 5 1 (u8s ((ints bxs) ++ putL n.toNat (ints lxs)))], false⟩ | _, _ => none) else
  if f = 64 then (match xs, bs with | [AV.one (Cl.ptr 0 0), AV.agg [Cl.d (DV.int _ c0), Cl.d (DV.int _ c1), Cl.d (DV.int _ c2), Cl.d (DV.int _ ca), Cl.d (DV.int _ cf)]], [Bx.cells [Cl.ref 1 bn], Bx.row _ _ bxs] => some ⟨AV.tup [], [Bx.cells [Cl.ref 1 (((ints bxs) ++ pxB ⟨c0, c1, c2, ca, cf⟩).length)], Bx.row 5 1 (u8s ((ints bxs) ++ pxB ⟨c0, c1, c2, ca, cf⟩))], false⟩ | _, _ => none) else
  none
 iter := fun f cs =>
  none

def script_writer_put_ann (b : List Int) (n : Int) (l : List Int) : Ann := let zz0 := (1, AV.one (Cl.d (DV.int .i64 n))); let zz1 := (9, AV.one (Cl.d (DV.sl l.length (is l)))); let zz2 := (10, AV.one (Cl.d (DV.int .i64 ((l.length : Nat) : Int)))); let zz3 := fun (k : Nat) => (11, AV.one (Cl.d (DV.int .i64 ((k : Nat) : Int)))); (Ann.seq Ann.leaf (Ann.loop ⟨Nat, fun k => k ≤ l.length, fun k => ⟨[(0, AV.one (Cl.ptr 0 0)), zz0, zz1, zz2, (zz3 k)], [(0, Bx.cells [Cl.ref 9001 ((b ++ putL n.toNat (l.take k)).length)]), (9001, Bx.row 5 1 (u8s (b ++ putL n.toNat (l.take k))))]⟩, fun k => l.length - k⟩ fun k => (Ann.seq Ann.leaf (Ann.seq Ann.leaf (Ann.seq (Ann.seq Ann.leaf (Ann.seq Ann.leaf (Ann.loop ⟨Nat, fun j => j ≤ n.toNat, fun j => ⟨[(0, AV.one (Cl.ptr 0 0)), zz0, (7, AV.one (Cl.d (DV.int .i64 (nAt (is l) (((k : Nat) : Int).toNat * 1))))), (8, AV.one (Cl.d (DV.int .i64 (n - 1 - (j : Int))))), zz1, zz2, (zz3 k)], [(0, Bx.cells [Cl.ref 9002 ((b ++ putL n.toNat (l.take k) ++ (beI n.toNat (nAt (is l) k)).take j).length)]), (9002, Bx.row 5 1 (u8s (b ++ putL n.toNat (l.take k) ++ (beI n.toNat (nAt (is l) k)).take j)))]⟩, fun j => n.toNat - j⟩ fun j => Ann.leaf))) Ann.leaf)))))
theorem script_writer_put_vc (b : List Int) (n : Int) (l : List Int) : vcg Try.prog gamEb ⟨36, fun _ => false, List.range 1, false⟩ (bodyOf Try.f29) (script_writer_put_ann b n l) kn0 (startG [AV.one (Cl.ptr 0 0), AV.one (Cl.d (DV.int .i64 n)), AV.one (Cl.d (DV.sl l.length (is l)))] [Bx.cells [Cl.ref 1 b.length], Bx.row 5 1 (u8s b)]) (postG Try.prog ⟨36, fun _ => false, List.range 1, false⟩ Try.f29.results.toList ⟨AV.tup [], [Bx.cells [Cl.ref 1 ((b ++ putL n.toNat l).length)], Bx.row 5 1 (u8s (b ++ putL n.toNat l))], false⟩) =
  (let zz0 := (DV.int .i64 n = DV.int .i64 n); let zz1 := (DV.sl l.length (is l) = DV.sl l.length (is l)); let zz2 := (DV.int .i64 ((l.length : Nat) : Int) = DV.int .i64 ((l.length : Nat) : Int)); let zz3 := fun (k : Nat) => (DV.int .i64 (nAt (is l) (((k : Nat) : Int).toNat * 1)) = DV.int .i64 (nAt (is l) (((k : Nat) : Int).toNat * 1))); let zz4 := fun (k : Nat) => (DV.int .i64 ((k : Nat) : Int) = DV.int .i64 ((k : Nat) : Int)); True ∧ True ∧ True ∧ ((∃ k : Nat, (k ≤ l.length) ∧ (((0 = 0) ∧ zz0 ∧ zz1 ∧ zz2 ∧ (DV.int .i64 0 = DV.int .i64 ((k : Nat) : Int)) ∧ True) ∧ (((b.length = (b ++ putL n.toNat (l.take k)).length) ∧ True) ∧ (u8s b = u8s (b ++ putL n.toNat (l.take k))) ∧ True))) ∧ ∀ k : Nat, (k ≤ l.length) → True ∧ (((decide (((k : Nat) : Int) < ((l.length : Nat) : Int))) = true → (0 ≤ ((k : Nat) : Int) ∧ ((k : Nat) : Int) < ((l.length : Nat) : Int) ∧ ((k : Nat) : Int).toNat * 1 < (is l).length) ∧ (((is l)[((k : Nat) : Int).toNat * 1]? = some (DV.int .i64 (nAt (is l) (((k : Nat) : Int).toNat * 1)))) ∧ True) ∧ True ∧ True ∧ True ∧ True ∧ ((∃ j : Nat, (j ≤ n.toNat) ∧ (((0 = 0) ∧ zz0 ∧ (zz3 k) ∧ (DV.int .i64 (IntKind.wrap .i64 (n - (1 : Int))) = DV.int .i64 (n - 1 - (j : Int))) ∧ zz1 ∧ zz2 ∧ (zz4 k) ∧ True) ∧ ((((b ++ putL n.toNat (l.take k)).length = (b ++ putL n.toNat (l.take k) ++ (beI n.toNat (nAt (is l) k)).take j).length) ∧ True) ∧ (u8s (b ++ putL n.toNat (l.take k)) = u8s (b ++ putL n.toNat (l.take k) ++ (beI n.toNat (nAt (is l) k)).take j)) ∧ True))) ∧ ∀ j : Nat, (j ≤ n.toNat) → True ∧ True ∧ (((decide ((n - 1 - (j : Int)) ≥ (0 : Int))) = true → True ∧ True ∧ True ∧ True ∧ True ∧ True ∧ True ∧ True ∧ (0 ≤ IntKind.wrap .i64 ((8 : Int) * (n - 1 - (j : Int)))) ∧ True ∧ True ∧ (appVc 1 1 ((b ++ putL n.toNat (l.take k) ++ (beI n.toNat (nAt (is l) k)).take j).length) 1 (u8s (b ++ putL n.toNat (l.take k) ++ (beI n.toNat (nAt (is l) k)).take j)) ([DV.int .u8 (IntKind.wrap .u8 (Int.fdiv (nAt (is l) (((k : Nat) : Int).toNat * 1)) (2 ^ min (IntKind.wrap .i64 ((8 : Int) * (n - 1 - (j : Int)))).toNat 64)))])) ∧ True ∧ True ∧ True ∧ (true = true) ∧ True ∧ True ∧ True ∧ ∃ j' : Nat, (j' ≤ n.toNat) ∧ (n.toNat - j' < n.toNat - j) ∧ (((0 = 0) ∧ zz0 ∧ (zz3 k) ∧ (DV.int .i64 (IntKind.wrap .i64 ((n - 1 - (j : Int)) - (1 : Int))) = DV.int .i64 (n - 1 - (j' : Int))) ∧ zz1 ∧ zz2 ∧ (zz4 k) ∧ True) ∧ (((((b ++ putL n.toNat (l.take k) ++ (beI n.toNat (nAt (is l) k)).take j).length) + 1 = (b ++ putL n.toNat (l.take k) ++ (beI n.toNat (nAt (is l) k)).take j').length) ∧ True) ∧ ((u8s (b ++ putL n.toNat (l.take k) ++ (beI n.toNat (nAt (is l) k)).take j)) ++ ([DV.int .u8 (IntKind.wrap .u8 (Int.fdiv (nAt (is l) (((k : Nat) : Int).toNat * 1)) (2 ^ min (IntKind.wrap .i64 ((8 : Int) * (n - 1 - (j : Int)))).toNat 64)))]) = u8s (b ++ putL n.toNat (l.take k) ++ (beI n.toNat (nAt (is l) k)).take j')) ∧ True))) ∧ ((decide ((n - 1 - (j : Int)) ≥ (0 : Int))) = false → True ∧ True ∧ ∃ k' : Nat, (k' ≤ l.length) ∧ (l.length - k' < l.length - k) ∧ (((0 = 0) ∧ zz0 ∧ zz1 ∧ zz2 ∧ (DV.int .i64 (IntKind.wrap .i64 (((k : Nat) : Int) + (1 : Int))) = DV.int .i64 ((k' : Nat) : Int)) ∧ True) ∧ ((((b ++ putL n.toNat (l.take k) ++ (beI n.toNat (nAt (is l) k)).take j).length = (b ++ putL n.toNat (l.take k')).length) ∧ True) ∧ (u8s (b ++ putL n.toNat (l.take k) ++ (beI n.toNat (nAt (is l) k)).take j) = u8s (b ++ putL n.toNat (l.take k'))) ∧ True)))))) ∧ ((decide (((k : Nat) : Int) < ((l.length : Nat) : Int))) = false → ((True ∧ True) ∧ ((((b ++ putL n.toNat (l.take k)).length = (b ++ putL n.toNat l).length) ∧ True) ∧ (u8s (b ++ putL n.toNat (l.take k)) = u8s (b ++ putL n.toNat l)) ∧ True)) ∧ freshOK ⟨AV.tup [], [Bx.cells [Cl.ref 1 ((b ++ putL n.toNat l).length)], Bx.row 5 1 (u8s (b ++ putL n.toNat l))], false⟩)))) := by kernel_rfl
theorem script_writer_put_ans (b : List Int) (n : Int) (l : List Int) (hn : 1 ≤ n ∧ n ≤ 8) (hb : b.length + n.toNat * l.length ≤ 1000000000) : AnsG Try.prog 29 1 [AV.one (Cl.ptr 0 0), AV.one (Cl.d (DV.int .i64 n)), AV.one (Cl.d (DV.sl l.length (is l)))] [Bx.cells [Cl.ref 1 b.length], Bx.row 5 1 (u8s b)] ⟨AV.tup [], [Bx.cells [Cl.ref 1 ((b ++ putL n.toNat l).length)], Bx.row 5 1 (u8s (b ++ putL n.toNat l))], false⟩ :=
  ansG_of_vcg (Γ := gamEb) (script_writer_put_ann b n l) mixed_ Try.func29 rfl (Nat.le_of_ble_eq_true rfl) rfl fun hwf hbx => by
    refine Eq.mpr (script_writer_put_vc b n l) ?_
    simp only [true_and, and_true, RV.d.injEq, RV.agg.injEq, RV.tup.injEq, DV.bool.injEq, DV.int.injEq, DV.sl.injEq, List.cons.injEq, forall_const, Bool.not_false, Bool.not_true, Bool.not_eq_true', Bool.not_eq_false', decide_eq_true_eq, decide_eq_false_iff_not, Int.toNat_natCast, imQ, imQr, imC, oqQ, oqQr, oqC, oqD, pxQ, pxQr, pxC, pxD]
    obtain ⟨hn0, hn8⟩ := hn
    generalize hN : n.toNat = N at *
    have hnN : n = (N : Int) := by omega
    subst hnN
    have hN8 : 1 ≤ N ∧ N ≤ 8 := by omega
    have hll : l.length ≤ N * l.length := Nat.le_mul_of_pos_left _ (by omega)
    clear hN hn0 hn8
    have ht : ∀ {k : Nat}, k ≤ l.length → (putL N (l.take k)).length = k * N := fun {k} h => by rw [putL_len, List.length_take, Nat.min_eq_left h]
    have hkn : ∀ k : Nat, k < l.length → (k + 1) * N ≤ N * l.length := fun k h => by rw [Nat.mul_comm]; exact Nat.mul_le_mul_left N h
    refine ⟨⟨0, Nat.zero_le _, rfl, by simp [putL], by simp [putL]⟩, fun k hk => ⟨fun hlt => ?_, fun hge => ?_⟩⟩
    · have hk' : k < l.length := by omega
      obtain ⟨q1, q2⟩ := is_rd hk'
      have w1 : IntKind.wrap .i64 ((k : Int) + 1) = ((k + 1 : Nat) : Int) := by rw [IntWalk.i64_in _ ⟨by omega, by omega⟩]; omega
      have w2 : IntKind.wrap .i64 ((N : Int) - 1) = (N : Int) - 1 := IntWalk.i64_in _ ⟨by omega, by omega⟩
      simp only [Nat.mul_one, q2, w1, w2]
      refine ⟨⟨by omega, by omega, by rw [is_length]; omega⟩, q1, ⟨0, Nat.zero_le _, by omega, by simp, by simp⟩, fun j hj => ⟨fun hj0 => ?_, fun hj0 => ?_⟩⟩
      · have hjN : j < N := by omega
        have hi : ∃ i : Nat, (i : Int) = (N : Int) - 1 - (j : Int) ∧ i = N - 1 - j := ⟨N - 1 - j, by omega, rfl⟩
        obtain ⟨i, hi, hi2⟩ := hi
        rw [← hi, byI_eq _ (by omega : i < 8), hi2]
        have hb1 := beI_take (v := l[k]) hjN
        have hl1 : ((beI N l[k]).take j).length = j := by rw [List.length_take, beI_len, Nat.min_eq_left (by omega)]
        have hl2 := ht (Nat.le_of_lt hk')
        have hl3 := hkn k hk'
        have hl4 : (k + 1) * N = k * N + N := Nat.succ_mul k N
        have w3 : IntKind.wrap .i64 (8 * (i : Int)) = 8 * (i : Int) := IntWalk.i64_in _ ⟨by omega, by omega⟩
        have w4 : IntKind.wrap .i64 ((i : Int) - 1) = (i : Int) - 1 := IntWalk.i64_in _ ⟨by omega, by omega⟩
        rw [← hi2, w3, w4]
        refine ⟨by omega, ⟨by rw [u8s_len, Nat.mul_one], rfl, ?_, ?_⟩, j + 1, by omega, by omega, by omega, ?_, ?_⟩
        · simp only [List.length_append, hl1, hl2, maxLen]; omega
        · simp only [List.length_append, hl1, hl2]; omega
        · rw [hb1]; simp only [List.length_append, List.length_cons, List.length_nil]; omega
        · rw [hb1, hi2]; simp [u8s]
      · have : j = N := by omega
        subst this
        refine ⟨k + 1, by omega, by omega, rfl, ?_, ?_⟩
        · rw [putL_take hk', List.take_of_length_le (l := beI j l[k]) (by rw [beI_len]; omega), List.append_assoc]
        · rw [putL_take hk', List.take_of_length_le (l := beI j l[k]) (by rw [beI_len]; omega), List.append_assoc]
    · have : k = l.length := by omega
      subst this
      rw [List.take_length]
      exact ⟨⟨rfl, rfl⟩, trivial⟩

def script_writer_pixel_ann (b : List Int) (p : Px) : Ann := Ann.leaf
theorem script_writer_pixel_vc (b : List Int) (p : Px) : vcg Try.prog gamEb ⟨25, fun _ => false, List.range 1, false⟩ (bodyOf Try.f64) (script_writer_pixel_ann b p) kn0 (startG [AV.one (Cl.ptr 0 0), AV.agg [Cl.d (DV.int .u16 p.a), Cl.d (DV.int .u16 p.b), Cl.d (DV.int .u16 p.c), Cl.d (DV.int .u16 p.al), Cl.d (DV.int .u16 p.f)]] [Bx.cells [Cl.ref 1 b.length], Bx.row 5 1 (u8s b)]) (postG Try.prog ⟨25, fun _ => false, List.range 1, false⟩ Try.f64.results.toList ⟨AV.tup [], [Bx.cells [Cl.ref 1 ((b ++ pxB p).length)], Bx.row 5 1 (u8s (b ++ pxB p))], false⟩) =
  (True ∧ True ∧ True ∧ (0 ≤ (0 : Int) ∧ (0 : Int) < ((3 : Nat) : Int)) ∧ True ∧ True ∧ True ∧ (0 ≤ (1 : Int) ∧ (1 : Int) < ((3 : Nat) : Int)) ∧ True ∧ True ∧ True ∧ (0 ≤ (2 : Int) ∧ (2 : Int) < ((3 : Nat) : Int)) ∧ True ∧ True ∧ True ∧ True ∧ True ∧ True ∧ True ∧ True ∧ True ∧ (AnsG Try.prog 29 1 [AV.one (Cl.ptr 0 0), AV.one (Cl.d (DV.int .i64 2)), AV.one (Cl.d (DV.sl 5 ([DV.int .i64 (IntKind.wrap .i64 p.a), DV.int .i64 (IntKind.wrap .i64 p.b), DV.int .i64 (IntKind.wrap .i64 p.c), DV.int .i64 (IntKind.wrap .i64 p.al), DV.int .i64 (IntKind.wrap .i64 p.f)])))] [Bx.cells [Cl.ref 1 b.length], Bx.row 5 1 (u8s b)] ⟨AV.tup [], [Bx.cells [Cl.ref 1 (((ints (u8s b)) ++ putL 2 (ints ([DV.int .i64 (IntKind.wrap .i64 p.a), DV.int .i64 (IntKind.wrap .i64 p.b), DV.int .i64 (IntKind.wrap .i64 p.c), DV.int .i64 (IntKind.wrap .i64 p.al), DV.int .i64 (IntKind.wrap .i64 p.f)]))).length)], Bx.row 5 1 (u8s ((ints (u8s b)) ++ putL 2 (ints ([DV.int .i64 (IntKind.wrap .i64 p.a), DV.int .i64 (IntKind.wrap .i64 p.b), DV.int .i64 (IntKind.wrap .i64 p.c), DV.int .i64 (IntKind.wrap .i64 p.al), DV.int .i64 (IntKind.wrap .i64 p.f)]))))], false⟩) ∧ ((True ∧ True) ∧ (((((ints (u8s b)) ++ putL 2 (ints ([DV.int .i64 (IntKind.wrap .i64 p.a), DV.int .i64 (IntKind.wrap .i64 p.b), DV.int .i64 (IntKind.wrap .i64 p.c), DV.int .i64 (IntKind.wrap .i64 p.al), DV.int .i64 (IntKind.wrap .i64 p.f)]))).length = (b ++ pxB p).length) ∧ True) ∧ (u8s ((ints (u8s b)) ++ putL 2 (ints ([DV.int .i64 (IntKind.wrap .i64 p.a), DV.int .i64 (IntKind.wrap .i64 p.b), DV.int .i64 (IntKind.wrap .i64 p.c), DV.int .i64 (IntKind.wrap .i64 p.al), DV.int .i64 (IntKind.wrap .i64 p.f)]))) = u8s (b ++ pxB p)) ∧ True)) ∧ freshOK ⟨AV.tup [], [Bx.cells [Cl.ref 1 ((b ++ pxB p).length)], Bx.row 5 1 (u8s (b ++ pxB p))], false⟩) := by kernel_rfl
theorem script_writer_pixel_ans (b : List Int) (p : Px) (hb : b.length ≤ 900000000) : AnsG Try.prog 64 1 [AV.one (Cl.ptr 0 0), AV.agg [Cl.d (DV.int .u16 p.a), Cl.d (DV.int .u16 p.b), Cl.d (DV.int .u16 p.c), Cl.d (DV.int .u16 p.al), Cl.d (DV.int .u16 p.f)]] [Bx.cells [Cl.ref 1 b.length], Bx.row 5 1 (u8s b)] ⟨AV.tup [], [Bx.cells [Cl.ref 1 ((b ++ pxB p).length)], Bx.row 5 1 (u8s (b ++ pxB p))], false⟩ :=
  ansG_of_vcg (Γ := gamEb) (script_writer_pixel_ann b p) mixed_ Try.func64 rfl (Nat.le_of_ble_eq_true rfl) rfl fun hwf hbx => by
    refine Eq.mpr (script_writer_pixel_vc b p) ?_
    simp only [true_and, and_true, RV.d.injEq, RV.agg.injEq, RV.tup.injEq, DV.bool.injEq, DV.int.injEq, DV.sl.injEq, List.cons.injEq, forall_const, Bool.not_false, Bool.not_true, Bool.not_eq_true', Bool.not_eq_false', decide_eq_true_eq, decide_eq_false_iff_not, Int.toNat_natCast, imQ, imQr, imC, oqQ, oqQr, oqC, oqD, pxQ, pxQr, pxC, pxD]
    simp only [AV.wfL, AV.wf, Cl.wfs, DV.wf] at hwf
    have w0 : ∀ n : Int, 0 ≤ n ∧ n ≤ 65535 → IntKind.wrap .i64 n = n := fun n h => IntWalk.i64_in _ ⟨by omega, by omega⟩
    obtain ⟨_, ⟨h1, h2, h3, h4, h5, _⟩, _⟩ := hwf
    simp only [ints_u8s, ints_cons, ints_nil, w0 _ h1, w0 _ h2, w0 _ h3, w0 _ h4, w0 _ h5]
    refine ⟨by omega, by omega, by omega, ?_⟩
    have h := script_writer_put_ans b 2 [p.a, p.b, p.c, p.al, p.f] ⟨by omega, by omega⟩ (by simp; omega)
    exact ⟨h, ⟨rfl, rfl⟩, trivial⟩

def script_flags_ann (o : Oq) : Ann := Ann.leaf
theorem script_flags_vc (o : Oq) : vcg Try.prog gamEb 13 (bodyOf Try.f66) (script_flags_ann o) kn0 (start [RV.agg [DV.int .i64 o.kind, DV.int .i64 o.image, DV.int .i64 o.x, DV.int .i64 o.y, DV.int .i64 o.mask, DV.int .i64 o.mx, DV.int .i64 o.my, DV.int .u16 o.opac, DV.int .i64 o.oper, DV.int .i64 o.mode, DV.bool o.iso, DV.bool o.kno]]) (post Try.prog Try.f66.results.toList (· = RV.d (DV.int .i64 (flagO ⟨o.kind, o.image, o.x, o.y, o.mask, o.mx, o.my, o.opac, o.oper, o.mode, o.iso, o.kno⟩)))) =
  (let zz0 := (IntKind.wrap .i64 ((0 : Int) + (1 : Int))); let zz1 := (DV.int .i64 (flagO ⟨o.kind, o.image, o.x, o.y, o.mask, o.mx, o.my, o.opac, o.oper, o.mode, o.iso, o.kno⟩)); True ∧ True ∧ True ∧ True ∧ True ∧ ((o.iso = true → True ∧ True ∧ True ∧ True ∧ True ∧ ((o.kno = true → True ∧ True ∧ True ∧ True ∧ True ∧ RV.d (DV.int .i64 (IntKind.wrap .i64 (zz0 + (2 : Int)))) = RV.d zz1) ∧ (o.kno = false → True ∧ True ∧ RV.d (DV.int .i64 zz0) = RV.d zz1))) ∧ (o.iso = false → True ∧ True ∧ ((o.kno = true → True ∧ True ∧ True ∧ True ∧ True ∧ RV.d (DV.int .i64 (IntKind.wrap .i64 ((0 : Int) + (2 : Int)))) = RV.d zz1) ∧ (o.kno = false → True ∧ True ∧ RV.d (DV.int .i64 0) = RV.d zz1))))) := by kernel_rfl
theorem script_flags_ans (o : Oq) : Ans Try.prog 66 [RV.agg [DV.int .i64 o.kind, DV.int .i64 o.image, DV.int .i64 o.x, DV.int .i64 o.y, DV.int .i64 o.mask, DV.int .i64 o.mx, DV.int .i64 o.my, DV.int .u16 o.opac, DV.int .i64 o.oper, DV.int .i64 o.mode, DV.bool o.iso, DV.bool o.kno]] (RV.d (DV.int .i64 (flagO ⟨o.kind, o.image, o.x, o.y, o.mask, o.mx, o.my, o.opac, o.oper, o.mode, o.iso, o.kno⟩))) :=
  ans_of_vcg (Γ := gamEb) (script_flags_ann o) mixed_ Try.func66 rfl (Nat.le_of_ble_eq_true rfl) fun hwf => by
    refine Eq.mpr (script_flags_vc o) ?_
    simp only [true_and, and_true, RV.d.injEq, RV.agg.injEq, RV.tup.injEq, DV.bool.injEq, DV.int.injEq, DV.sl.injEq, List.cons.injEq, forall_const, Bool.not_false, Bool.not_true, Bool.not_eq_true', Bool.not_eq_false', decide_eq_true_eq, decide_eq_false_iff_not, Int.toNat_natCast, imQ, imQr, imC, oqQ, oqQr, oqC, oqD, pxQ, pxQr, pxC, pxD]
    have := o.iso; unfold flagO; cases o.iso <;> cases o.kno <;> decide

def script_writer_image_ann (b : List Int) (m : Im) : Ann := (Ann.seq Ann.leaf (Ann.seq Ann.leaf (Ann.seq Ann.leaf (Ann.seq Ann.leaf (Ann.seq Ann.leaf (Ann.loop ⟨Nat, fun k => k ≤ m.pixels.length, fun k => ⟨[(0, AV.one (Cl.ptr 0 0)), (33, AV.one (Cl.ref 33 ((Im.pixels m).length))), (34, AV.one (Cl.d (DV.int .i64 (((Im.pixels m).length : Nat) : Int)))), (35, AV.one (Cl.d (DV.int .i64 ((k : Nat) : Int))))], [(0, Bx.cells [Cl.ref 9001 ((b ++ (putL 1 [0] ++ putL 4 [m.w, m.h] ++ (m.pixels.take k).flatMap pxB)).length)]), (33, Bx.row 37 5 (pxs (Im.pixels m))), (9001, Bx.row 5 1 (u8s (b ++ (putL 1 [0] ++ putL 4 [m.w, m.h] ++ (m.pixels.take k).flatMap pxB))))]⟩, fun k => m.pixels.length - k⟩ fun k => Ann.leaf))))))
theorem script_writer_image_vc (b : List Int) (m : Im) : vcg Try.prog gamEb ⟨43, fun _ => false, List.range 1, false⟩ (bodyOf Try.f30) (script_writer_image_ann b m) kn0 (startG [AV.one (Cl.ptr 0 0), (imD (m))] [Bx.cells [Cl.ref 1 b.length], Bx.row 5 1 (u8s b)]) (postG Try.prog ⟨43, fun _ => false, List.range 1, false⟩ Try.f30.results.toList ⟨AV.tup [], [Bx.cells [Cl.ref 1 ((b ++ imB_ m).length)], Bx.row 5 1 (u8s (b ++ imB_ m))], false⟩) =
  (let zz0 := (Cl.d (DV.int .i64 1)); let zz1 := [Bx.cells [Cl.ref 1 b.length], Bx.row 5 1 (u8s b)]; let zz2 := [Bx.cells [Cl.ref 1 (((ints (u8s b)) ++ putL 1 (ints ([DV.int .i64 1]))).length)], Bx.row 5 1 (u8s ((ints (u8s b)) ++ putL 1 (ints ([DV.int .i64 1]))))]; let zz3 := [AV.one (Cl.ptr 0 0), AV.one (Cl.d (DV.int .i64 4)), AV.one (Cl.d (DV.sl 2 ([DV.int .i64 m.w, DV.int .i64 m.h])))]; let zz4 := [Bx.cells [Cl.ref 1 (((ints (u8s ((ints (u8s b)) ++ putL 1 (ints ([DV.int .i64 1]))))) ++ putL 4 (ints ([DV.int .i64 m.w, DV.int .i64 m.h]))).length)], Bx.row 5 1 (u8s ((ints (u8s ((ints (u8s b)) ++ putL 1 (ints ([DV.int .i64 1]))))) ++ putL 4 (ints ([DV.int .i64 m.w, DV.int .i64 m.h]))))]; let zz5 := [Bx.cells [Cl.ref 1 (((ints (u8s b)) ++ putL 1 (ints ([DV.int .i64 0]))).length)], Bx.row 5 1 (u8s ((ints (u8s b)) ++ putL 1 (ints ([DV.int .i64 0]))))]; let zz6 := ((Im.pixels m).length = (Im.pixels m).length); let zz7 := (DV.int .i64 (((Im.pixels m).length : Nat) : Int) = DV.int .i64 (((Im.pixels m).length : Nat) : Int)); let zz8 := (pxs (Im.pixels m) = pxs (Im.pixels m)); True ∧ True ∧ True ∧ ((m.so = true → True ∧ True ∧ (AnsG Try.prog 29 1 [AV.one (Cl.ptr 0 0), AV.one zz0, AV.one (Cl.d (DV.sl 1 ([DV.int .i64 1])))] zz1 ⟨AV.tup [], zz2, false⟩) ∧ True ∧ True ∧ True ∧ True ∧ True ∧ True ∧ (AnsG Try.prog 29 1 zz3 zz2 ⟨AV.tup [], zz4, false⟩) ∧ True ∧ True ∧ True ∧ (AnsG Try.prog 64 1 [AV.one (Cl.ptr 0 0), AV.agg [Cl.d (DV.int .u16 m.c.a), Cl.d (DV.int .u16 m.c.b), Cl.d (DV.int .u16 m.c.c), Cl.d (DV.int .u16 m.c.al), Cl.d (DV.int .u16 m.c.f)]] zz4 ⟨AV.tup [], [Bx.cells [Cl.ref 1 (((ints (u8s ((ints (u8s ((ints (u8s b)) ++ putL 1 (ints ([DV.int .i64 1]))))) ++ putL 4 (ints ([DV.int .i64 m.w, DV.int .i64 m.h]))))) ++ pxB m.c).length)], Bx.row 5 1 (u8s ((ints (u8s ((ints (u8s ((ints (u8s b)) ++ putL 1 (ints ([DV.int .i64 1]))))) ++ putL 4 (ints ([DV.int .i64 m.w, DV.int .i64 m.h]))))) ++ pxB m.c))], false⟩) ∧ ((True ∧ True) ∧ (((((ints (u8s ((ints (u8s ((ints (u8s b)) ++ putL 1 (ints ([DV.int .i64 1]))))) ++ putL 4 (ints ([DV.int .i64 m.w, DV.int .i64 m.h]))))) ++ pxB m.c).length = (b ++ imB_ m).length) ∧ True) ∧ (u8s ((ints (u8s ((ints (u8s ((ints (u8s b)) ++ putL 1 (ints ([DV.int .i64 1]))))) ++ putL 4 (ints ([DV.int .i64 m.w, DV.int .i64 m.h]))))) ++ pxB m.c) = u8s (b ++ imB_ m)) ∧ True)) ∧ freshOK ⟨AV.tup [], [Bx.cells [Cl.ref 1 ((b ++ imB_ m).length)], Bx.row 5 1 (u8s (b ++ imB_ m))], false⟩) ∧ (m.so = false → True ∧ True ∧ (AnsG Try.prog 29 1 [AV.one (Cl.ptr 0 0), AV.one zz0, AV.one (Cl.d (DV.sl 1 ([DV.int .i64 0])))] zz1 ⟨AV.tup [], zz5, false⟩) ∧ True ∧ True ∧ True ∧ True ∧ True ∧ True ∧ (AnsG Try.prog 29 1 zz3 zz5 ⟨AV.tup [], [Bx.cells [Cl.ref 1 (((ints (u8s ((ints (u8s b)) ++ putL 1 (ints ([DV.int .i64 0]))))) ++ putL 4 (ints ([DV.int .i64 m.w, DV.int .i64 m.h]))).length)], Bx.row 5 1 (u8s ((ints (u8s ((ints (u8s b)) ++ putL 1 (ints ([DV.int .i64 0]))))) ++ putL 4 (ints ([DV.int .i64 m.w, DV.int .i64 m.h]))))], false⟩) ∧ True ∧ (AnsO Try.prog 65 [(imR (m))] 37 5 ((Im.pixels m).length) (pxs (Im.pixels m))) ∧ ((Im.pixels m).length ≤ maxLen) ∧ True ∧ ((∃ k : Nat, (k ≤ m.pixels.length) ∧ (((0 = 0) ∧ zz6 ∧ zz7 ∧ (DV.int .i64 0 = DV.int .i64 ((k : Nat) : Int)) ∧ True) ∧ (((((ints (u8s ((ints (u8s b)) ++ putL 1 (ints ([DV.int .i64 0]))))) ++ putL 4 (ints ([DV.int .i64 m.w, DV.int .i64 m.h]))).length = (b ++ (putL 1 [0] ++ putL 4 [m.w, m.h] ++ (m.pixels.take k).flatMap pxB)).length) ∧ True) ∧ zz8 ∧ (u8s ((ints (u8s ((ints (u8s b)) ++ putL 1 (ints ([DV.int .i64 0]))))) ++ putL 4 (ints ([DV.int .i64 m.w, DV.int .i64 m.h]))) = u8s (b ++ (putL 1 [0] ++ putL 4 [m.w, m.h] ++ (m.pixels.take k).flatMap pxB))) ∧ True))) ∧ ∀ k : Nat, (k ≤ m.pixels.length) → True ∧ (((decide (((k : Nat) : Int) < (((Im.pixels m).length : Nat) : Int))) = true → (0 ≤ ((k : Nat) : Int) ∧ ((k : Nat) : Int) < (((Im.pixels m).length : Nat) : Int)) ∧ ((pxQr (pxs (Im.pixels m)) (((k : Nat) : Int).toNat * 5))) ∧ True ∧ True ∧ True ∧ True ∧ (AnsG Try.prog 64 1 [AV.one (Cl.ptr 0 0), pxD (pxQ (pxs (Im.pixels m)) (((k : Nat) : Int).toNat * 5))] [Bx.cells [Cl.ref 1 ((b ++ (putL 1 [0] ++ putL 4 [m.w, m.h] ++ (m.pixels.take k).flatMap pxB)).length)], Bx.row 5 1 (u8s (b ++ (putL 1 [0] ++ putL 4 [m.w, m.h] ++ (m.pixels.take k).flatMap pxB)))] ⟨AV.tup [], [Bx.cells [Cl.ref 1 (((ints (u8s (b ++ (putL 1 [0] ++ putL 4 [m.w, m.h] ++ (m.pixels.take k).flatMap pxB)))) ++ pxB (pxQ (pxs (Im.pixels m)) (((k : Nat) : Int).toNat * 5))).length)], Bx.row 5 1 (u8s ((ints (u8s (b ++ (putL 1 [0] ++ putL 4 [m.w, m.h] ++ (m.pixels.take k).flatMap pxB)))) ++ pxB (pxQ (pxs (Im.pixels m)) (((k : Nat) : Int).toNat * 5))))], false⟩) ∧ True ∧ True ∧ ∃ k' : Nat, (k' ≤ m.pixels.length) ∧ (m.pixels.length - k' < m.pixels.length - k) ∧ (((0 = 0) ∧ zz6 ∧ zz7 ∧ (DV.int .i64 (IntKind.wrap .i64 (((k : Nat) : Int) + (1 : Int))) = DV.int .i64 ((k' : Nat) : Int)) ∧ True) ∧ (((((ints (u8s (b ++ (putL 1 [0] ++ putL 4 [m.w, m.h] ++ (m.pixels.take k).flatMap pxB)))) ++ pxB (pxQ (pxs (Im.pixels m)) (((k : Nat) : Int).toNat * 5))).length = (b ++ (putL 1 [0] ++ putL 4 [m.w, m.h] ++ (m.pixels.take k').flatMap pxB)).length) ∧ True) ∧ zz8 ∧ (u8s ((ints (u8s (b ++ (putL 1 [0] ++ putL 4 [m.w, m.h] ++ (m.pixels.take k).flatMap pxB)))) ++ pxB (pxQ (pxs (Im.pixels m)) (((k : Nat) : Int).toNat * 5))) = u8s (b ++ (putL 1 [0] ++ putL 4 [m.w, m.h] ++ (m.pixels.take k').flatMap pxB))) ∧ True))) ∧ ((decide (((k : Nat) : Int) < (((Im.pixels m).length : Nat) : Int))) = false → ((True ∧ True) ∧ ((((b ++ (putL 1 [0] ++ putL 4 [m.w, m.h] ++ (m.pixels.take k).flatMap pxB)).length = (b ++ imB_ m).length) ∧ True) ∧ (u8s (b ++ (putL 1 [0] ++ putL 4 [m.w, m.h] ++ (m.pixels.take k).flatMap pxB)) = u8s (b ++ imB_ m)) ∧ True)) ∧ freshOK ⟨AV.tup [], [Bx.cells [Cl.ref 1 ((b ++ imB_ m).length)], Bx.row 5 1 (u8s (b ++ imB_ m))], false⟩)))))) := by kernel_rfl
theorem script_writer_image_ans (b : List Int) (m : Im) (hf : m.formed = true) (hu : m.isU) (hb : b.length ≤ 500000000) : AnsG Try.prog 30 1 [AV.one (Cl.ptr 0 0), (imD (m))] [Bx.cells [Cl.ref 1 b.length], Bx.row 5 1 (u8s b)] ⟨AV.tup [], [Bx.cells [Cl.ref 1 ((b ++ imB_ m).length)], Bx.row 5 1 (u8s (b ++ imB_ m))], false⟩ :=
  ansG_of_vcg (Γ := gamEb) (script_writer_image_ann b m) mixed_ Try.func30 rfl (Nat.le_of_ble_eq_true rfl) rfl fun hwf hbx => by
    refine Eq.mpr (script_writer_image_vc b m) ?_
    simp only [true_and, and_true, RV.d.injEq, RV.agg.injEq, RV.tup.injEq, DV.bool.injEq, DV.int.injEq, DV.sl.injEq, List.cons.injEq, forall_const, Bool.not_false, Bool.not_true, Bool.not_eq_true', Bool.not_eq_false', decide_eq_true_eq, decide_eq_false_iff_not, Int.toNat_natCast, imQ, imQr, imC, oqQ, oqQr, oqC, oqD, pxQ, pxQr, pxC, pxD]
    simp only [ints_u8s, ints_cons, ints_nil]
    have hpx := Im.pixels_len hf
    have hpl : m.pixels.length ≤ 16777216 := by have := (sizeIm_le' hf); omega
    have po := image_Pixels_im m hu
    have e1 : m.so = true → b ++ putL 1 [1] ++ putL 4 [m.w, m.h] ++ pxB m.c = b ++ imB_ m := fun h => by simp [imB_, h]
    refine ⟨fun h => ⟨script_writer_put_ans (b) 1 [1] ⟨by omega, by omega⟩ (by simp only [List.length_append, putL_len, pxB_len, List.length_cons, List.length_nil]; omega), script_writer_put_ans (b ++ putL 1 [1]) 4 [m.w, m.h] ⟨by omega, by omega⟩ (by simp only [List.length_append, putL_len, pxB_len, List.length_cons, List.length_nil]; omega), script_writer_pixel_ans (b ++ putL 1 [1] ++ putL 4 [m.w, m.h]) m.c (by simp only [List.length_append, putL_len, pxB_len, List.length_cons, List.length_nil]; omega), ⟨⟨by rw [e1 h], by rw [e1 h]⟩, trivial⟩⟩, fun h => ⟨script_writer_put_ans (b) 1 [0] ⟨by omega, by omega⟩ (by simp only [List.length_append, putL_len, pxB_len, List.length_cons, List.length_nil]; omega), script_writer_put_ans (b ++ putL 1 [0]) 4 [m.w, m.h] ⟨by omega, by omega⟩ (by simp only [List.length_append, putL_len, pxB_len, List.length_cons, List.length_nil]; omega), po, by unfold maxLen; omega, ⟨0, Nat.zero_le _, rfl, by simp, by simp⟩, fun k hk => ⟨fun hlt => ?_, fun hge => ?_⟩⟩⟩
    · have hk' : k < m.pixels.length := by omega
      have w1 : IntKind.wrap .i64 ((k : Int) + 1) = ((k + 1 : Nat) : Int) := by rw [IntWalk.i64_in _ ⟨by omega, by omega⟩]; omega
      obtain ⟨x0, x1, x2, x3, x4⟩ := pxs_at hk'
      have n0 : nAt (pxs m.pixels) (k * 5) = m.pixels[k].a := by simp [nAt, x0]
      have n1 : nAt (pxs m.pixels) (k * 5 + 1) = m.pixels[k].b := by simp [nAt, x1]
      have n2 : nAt (pxs m.pixels) (k * 5 + 1 + 1) = m.pixels[k].c := by simp [nAt, x2]
      have n3 : nAt (pxs m.pixels) (k * 5 + 1 + 1 + 1) = m.pixels[k].al := by simp [nAt, x3]
      have n4 : nAt (pxs m.pixels) (k * 5 + 1 + 1 + 1 + 1) = m.pixels[k].f := by simp [nAt, x4]
      simp only [n0, n1, n2, n3, n4, w1]
      have hL : (b ++ (putL 1 [0] ++ putL 4 [m.w, m.h] ++ (m.pixels.take k).flatMap pxB)).length ≤ 900000000 := by
        simp only [List.length_append, putL_len, pxBs_len, List.length_take, List.length_cons, List.length_nil]
        omega
      have hT : b ++ (putL 1 [0] ++ putL 4 [m.w, m.h] ++ (m.pixels.take k).flatMap pxB) ++ pxB m.pixels[k] = b ++ (putL 1 [0] ++ putL 4 [m.w, m.h] ++ (m.pixels.take (k + 1)).flatMap pxB) := by
        rw [List.take_succ_eq_append_getElem hk', List.flatMap_append]
        simp only [List.append_assoc, List.flatMap_cons, List.flatMap_nil, List.append_nil]
      exact ⟨⟨by omega, by omega⟩, ⟨x0, x1, x2, x3, x4⟩, script_writer_pixel_ans _ m.pixels[k] hL, k + 1, by omega, by omega, rfl, by rw [← hT], by rw [← hT]⟩
    · have : k = m.pixels.length := by omega
      subst this
      have e0 : b ++ (putL 1 [0] ++ putL 4 [m.w, m.h] ++ m.pixels.flatMap pxB) = b ++ imB_ m := by simp [imB_, h]
      rw [List.take_length, e0]
      exact ⟨⟨rfl, rfl⟩, trivial⟩

def script_writer_op_ann (b : List Int) (o : Oq) : Ann := Ann.leaf
theorem script_writer_op_vc (b : List Int) (o : Oq) : vcg Try.prog gamEb ⟨45, fun _ => false, List.range 1, false⟩ (bodyOf Try.f31) (script_writer_op_ann b o) kn0 (startG [AV.one (Cl.ptr 0 0), AV.agg [Cl.d (DV.int .i64 o.kind), Cl.d (DV.int .i64 o.image), Cl.d (DV.int .i64 o.x), Cl.d (DV.int .i64 o.y), Cl.d (DV.int .i64 o.mask), Cl.d (DV.int .i64 o.mx), Cl.d (DV.int .i64 o.my), Cl.d (DV.int .u16 o.opac), Cl.d (DV.int .i64 o.oper), Cl.d (DV.int .i64 o.mode), Cl.d (DV.bool o.iso), Cl.d (DV.bool o.kno)]] [Bx.cells [Cl.ref 1 b.length], Bx.row 5 1 (u8s b)]) (postG Try.prog ⟨45, fun _ => false, List.range 1, false⟩ Try.f31.results.toList ⟨AV.tup [], [Bx.cells [Cl.ref 1 ((b ++ opB ⟨o.kind, o.image, o.x, o.y, o.mask, o.mx, o.my, o.opac, o.oper, o.mode, o.iso, o.kno⟩).length)], Bx.row 5 1 (u8s (b ++ opB ⟨o.kind, o.image, o.x, o.y, o.mask, o.mx, o.my, o.opac, o.oper, o.mode, o.iso, o.kno⟩))], false⟩) =
  (let zz0 := (Cl.d (DV.int .i64 1)); let zz1 := [Bx.cells [Cl.ref 1 (((ints (u8s b)) ++ putL 1 (ints ([DV.int .i64 o.kind, DV.int .i64 o.image]))).length)], Bx.row 5 1 (u8s ((ints (u8s b)) ++ putL 1 (ints ([DV.int .i64 o.kind, DV.int .i64 o.image]))))]; let zz2 := (Cl.d (DV.int .i64 4)); let zz3 := [Bx.cells [Cl.ref 1 (((ints (u8s ((ints (u8s b)) ++ putL 1 (ints ([DV.int .i64 o.kind, DV.int .i64 o.image]))))) ++ putL 4 (ints ([DV.int .i64 o.x, DV.int .i64 o.y]))).length)], Bx.row 5 1 (u8s ((ints (u8s ((ints (u8s b)) ++ putL 1 (ints ([DV.int .i64 o.kind, DV.int .i64 o.image]))))) ++ putL 4 (ints ([DV.int .i64 o.x, DV.int .i64 o.y]))))]; let zz4 := [Bx.cells [Cl.ref 1 (((ints (u8s ((ints (u8s ((ints (u8s b)) ++ putL 1 (ints ([DV.int .i64 o.kind, DV.int .i64 o.image]))))) ++ putL 4 (ints ([DV.int .i64 o.x, DV.int .i64 o.y]))))) ++ putL 1 (ints ([DV.int .i64 o.mask]))).length)], Bx.row 5 1 (u8s ((ints (u8s ((ints (u8s ((ints (u8s b)) ++ putL 1 (ints ([DV.int .i64 o.kind, DV.int .i64 o.image]))))) ++ putL 4 (ints ([DV.int .i64 o.x, DV.int .i64 o.y]))))) ++ putL 1 (ints ([DV.int .i64 o.mask]))))]; let zz5 := [Bx.cells [Cl.ref 1 (((ints (u8s ((ints (u8s ((ints (u8s ((ints (u8s b)) ++ putL 1 (ints ([DV.int .i64 o.kind, DV.int .i64 o.image]))))) ++ putL 4 (ints ([DV.int .i64 o.x, DV.int .i64 o.y]))))) ++ putL 1 (ints ([DV.int .i64 o.mask]))))) ++ putL 4 (ints ([DV.int .i64 o.mx, DV.int .i64 o.my]))).length)], Bx.row 5 1 (u8s ((ints (u8s ((ints (u8s ((ints (u8s ((ints (u8s b)) ++ putL 1 (ints ([DV.int .i64 o.kind, DV.int .i64 o.image]))))) ++ putL 4 (ints ([DV.int .i64 o.x, DV.int .i64 o.y]))))) ++ putL 1 (ints ([DV.int .i64 o.mask]))))) ++ putL 4 (ints ([DV.int .i64 o.mx, DV.int .i64 o.my]))))]; let zz6 := [Bx.cells [Cl.ref 1 (((ints (u8s ((ints (u8s ((ints (u8s ((ints (u8s ((ints (u8s b)) ++ putL 1 (ints ([DV.int .i64 o.kind, DV.int .i64 o.image]))))) ++ putL 4 (ints ([DV.int .i64 o.x, DV.int .i64 o.y]))))) ++ putL 1 (ints ([DV.int .i64 o.mask]))))) ++ putL 4 (ints ([DV.int .i64 o.mx, DV.int .i64 o.my]))))) ++ putL 2 (ints ([DV.int .i64 (IntKind.wrap .i64 o.opac)]))).length)], Bx.row 5 1 (u8s ((ints (u8s ((ints (u8s ((ints (u8s ((ints (u8s ((ints (u8s b)) ++ putL 1 (ints ([DV.int .i64 o.kind, DV.int .i64 o.image]))))) ++ putL 4 (ints ([DV.int .i64 o.x, DV.int .i64 o.y]))))) ++ putL 1 (ints ([DV.int .i64 o.mask]))))) ++ putL 4 (ints ([DV.int .i64 o.mx, DV.int .i64 o.my]))))) ++ putL 2 (ints ([DV.int .i64 (IntKind.wrap .i64 o.opac)]))))]; True ∧ True ∧ True ∧ True ∧ True ∧ True ∧ True ∧ (AnsG Try.prog 29 1 [AV.one (Cl.ptr 0 0), AV.one zz0, AV.one (Cl.d (DV.sl 2 ([DV.int .i64 o.kind, DV.int .i64 o.image])))] [Bx.cells [Cl.ref 1 b.length], Bx.row 5 1 (u8s b)] ⟨AV.tup [], zz1, false⟩) ∧ True ∧ True ∧ True ∧ True ∧ True ∧ True ∧ (AnsG Try.prog 29 1 [AV.one (Cl.ptr 0 0), AV.one zz2, AV.one (Cl.d (DV.sl 2 ([DV.int .i64 o.x, DV.int .i64 o.y])))] zz1 ⟨AV.tup [], zz3, false⟩) ∧ True ∧ True ∧ True ∧ True ∧ (AnsG Try.prog 29 1 [AV.one (Cl.ptr 0 0), AV.one zz0, AV.one (Cl.d (DV.sl 1 ([DV.int .i64 o.mask])))] zz3 ⟨AV.tup [], zz4, false⟩) ∧ True ∧ True ∧ True ∧ True ∧ True ∧ True ∧ (AnsG Try.prog 29 1 [AV.one (Cl.ptr 0 0), AV.one zz2, AV.one (Cl.d (DV.sl 2 ([DV.int .i64 o.mx, DV.int .i64 o.my])))] zz4 ⟨AV.tup [], zz5, false⟩) ∧ True ∧ True ∧ True ∧ True ∧ True ∧ (AnsG Try.prog 29 1 [AV.one (Cl.ptr 0 0), AV.one (Cl.d (DV.int .i64 2)), AV.one (Cl.d (DV.sl 1 ([DV.int .i64 (IntKind.wrap .i64 o.opac)])))] zz5 ⟨AV.tup [], zz6, false⟩) ∧ True ∧ True ∧ True ∧ True ∧ True ∧ True ∧ (Ans Try.prog 66 [RV.agg (Oq.cells (o))] (RV.d (DV.int .i64 (flagO ⟨o.kind, o.image, o.x, o.y, o.mask, o.mx, o.my, o.opac, o.oper, o.mode, o.iso, o.kno⟩)))) ∧ True ∧ (AnsG Try.prog 29 1 [AV.one (Cl.ptr 0 0), AV.one zz0, AV.one (Cl.d (DV.sl 3 ([DV.int .i64 o.oper, DV.int .i64 o.mode, DV.int .i64 (flagO ⟨o.kind, o.image, o.x, o.y, o.mask, o.mx, o.my, o.opac, o.oper, o.mode, o.iso, o.kno⟩)])))] zz6 ⟨AV.tup [], [Bx.cells [Cl.ref 1 (((ints (u8s ((ints (u8s ((ints (u8s ((ints (u8s ((ints (u8s ((ints (u8s b)) ++ putL 1 (ints ([DV.int .i64 o.kind, DV.int .i64 o.image]))))) ++ putL 4 (ints ([DV.int .i64 o.x, DV.int .i64 o.y]))))) ++ putL 1 (ints ([DV.int .i64 o.mask]))))) ++ putL 4 (ints ([DV.int .i64 o.mx, DV.int .i64 o.my]))))) ++ putL 2 (ints ([DV.int .i64 (IntKind.wrap .i64 o.opac)]))))) ++ putL 1 (ints ([DV.int .i64 o.oper, DV.int .i64 o.mode, DV.int .i64 (flagO ⟨o.kind, o.image, o.x, o.y, o.mask, o.mx, o.my, o.opac, o.oper, o.mode, o.iso, o.kno⟩)]))).length)], Bx.row 5 1 (u8s ((ints (u8s ((ints (u8s ((ints (u8s ((ints (u8s ((ints (u8s ((ints (u8s b)) ++ putL 1 (ints ([DV.int .i64 o.kind, DV.int .i64 o.image]))))) ++ putL 4 (ints ([DV.int .i64 o.x, DV.int .i64 o.y]))))) ++ putL 1 (ints ([DV.int .i64 o.mask]))))) ++ putL 4 (ints ([DV.int .i64 o.mx, DV.int .i64 o.my]))))) ++ putL 2 (ints ([DV.int .i64 (IntKind.wrap .i64 o.opac)]))))) ++ putL 1 (ints ([DV.int .i64 o.oper, DV.int .i64 o.mode, DV.int .i64 (flagO ⟨o.kind, o.image, o.x, o.y, o.mask, o.mx, o.my, o.opac, o.oper, o.mode, o.iso, o.kno⟩)]))))], false⟩) ∧ (true = true) ∧ ((True ∧ True) ∧ (((((ints (u8s ((ints (u8s ((ints (u8s ((ints (u8s ((ints (u8s ((ints (u8s b)) ++ putL 1 (ints ([DV.int .i64 o.kind, DV.int .i64 o.image]))))) ++ putL 4 (ints ([DV.int .i64 o.x, DV.int .i64 o.y]))))) ++ putL 1 (ints ([DV.int .i64 o.mask]))))) ++ putL 4 (ints ([DV.int .i64 o.mx, DV.int .i64 o.my]))))) ++ putL 2 (ints ([DV.int .i64 (IntKind.wrap .i64 o.opac)]))))) ++ putL 1 (ints ([DV.int .i64 o.oper, DV.int .i64 o.mode, DV.int .i64 (flagO ⟨o.kind, o.image, o.x, o.y, o.mask, o.mx, o.my, o.opac, o.oper, o.mode, o.iso, o.kno⟩)]))).length = (b ++ opB ⟨o.kind, o.image, o.x, o.y, o.mask, o.mx, o.my, o.opac, o.oper, o.mode, o.iso, o.kno⟩).length) ∧ True) ∧ (u8s ((ints (u8s ((ints (u8s ((ints (u8s ((ints (u8s ((ints (u8s ((ints (u8s b)) ++ putL 1 (ints ([DV.int .i64 o.kind, DV.int .i64 o.image]))))) ++ putL 4 (ints ([DV.int .i64 o.x, DV.int .i64 o.y]))))) ++ putL 1 (ints ([DV.int .i64 o.mask]))))) ++ putL 4 (ints ([DV.int .i64 o.mx, DV.int .i64 o.my]))))) ++ putL 2 (ints ([DV.int .i64 (IntKind.wrap .i64 o.opac)]))))) ++ putL 1 (ints ([DV.int .i64 o.oper, DV.int .i64 o.mode, DV.int .i64 (flagO ⟨o.kind, o.image, o.x, o.y, o.mask, o.mx, o.my, o.opac, o.oper, o.mode, o.iso, o.kno⟩)]))) = u8s (b ++ opB ⟨o.kind, o.image, o.x, o.y, o.mask, o.mx, o.my, o.opac, o.oper, o.mode, o.iso, o.kno⟩)) ∧ True)) ∧ freshOK ⟨AV.tup [], [Bx.cells [Cl.ref 1 ((b ++ opB ⟨o.kind, o.image, o.x, o.y, o.mask, o.mx, o.my, o.opac, o.oper, o.mode, o.iso, o.kno⟩).length)], Bx.row 5 1 (u8s (b ++ opB ⟨o.kind, o.image, o.x, o.y, o.mask, o.mx, o.my, o.opac, o.oper, o.mode, o.iso, o.kno⟩))], false⟩) := by kernel_rfl
theorem script_writer_op_ans (b : List Int) (o : Oq) (hb : b.length ≤ 900000000) : AnsG Try.prog 31 1 [AV.one (Cl.ptr 0 0), AV.agg [Cl.d (DV.int .i64 o.kind), Cl.d (DV.int .i64 o.image), Cl.d (DV.int .i64 o.x), Cl.d (DV.int .i64 o.y), Cl.d (DV.int .i64 o.mask), Cl.d (DV.int .i64 o.mx), Cl.d (DV.int .i64 o.my), Cl.d (DV.int .u16 o.opac), Cl.d (DV.int .i64 o.oper), Cl.d (DV.int .i64 o.mode), Cl.d (DV.bool o.iso), Cl.d (DV.bool o.kno)]] [Bx.cells [Cl.ref 1 b.length], Bx.row 5 1 (u8s b)] ⟨AV.tup [], [Bx.cells [Cl.ref 1 ((b ++ opB ⟨o.kind, o.image, o.x, o.y, o.mask, o.mx, o.my, o.opac, o.oper, o.mode, o.iso, o.kno⟩).length)], Bx.row 5 1 (u8s (b ++ opB ⟨o.kind, o.image, o.x, o.y, o.mask, o.mx, o.my, o.opac, o.oper, o.mode, o.iso, o.kno⟩))], false⟩ :=
  ansG_of_vcg (Γ := gamEb) (script_writer_op_ann b o) mixed_ Try.func31 rfl (Nat.le_of_ble_eq_true rfl) rfl fun hwf hbx => by
    refine Eq.mpr (script_writer_op_vc b o) ?_
    simp only [true_and, and_true, RV.d.injEq, RV.agg.injEq, RV.tup.injEq, DV.bool.injEq, DV.int.injEq, DV.sl.injEq, List.cons.injEq, forall_const, Bool.not_false, Bool.not_true, Bool.not_eq_true', Bool.not_eq_false', decide_eq_true_eq, decide_eq_false_iff_not, Int.toNat_natCast, imQ, imQr, imC, oqQ, oqQr, oqC, oqD, pxQ, pxQr, pxC, pxD]
    simp only [AV.wfL, AV.wf, Cl.wfs, DV.wf] at hwf
    obtain ⟨_, ⟨_, _, _, _, _, _, _, h8, _⟩, _⟩ := hwf
    have h8 : 0 ≤ o.opac ∧ o.opac ≤ 65535 := h8
    have w0 : IntKind.wrap .i64 o.opac = o.opac := IntWalk.i64_in _ ⟨by omega, by omega⟩
    have fl := script_flags_ans o
    simp only [ints_u8s, ints_cons, ints_nil, w0]
    have e : b ++ putL 1 [o.kind, o.image] ++ putL 4 [o.x, o.y] ++ putL 1 [o.mask] ++ putL 4 [o.mx, o.my] ++ putL 2 [o.opac] ++ putL 1 [o.oper, o.mode, flagO o] = b ++ opB o := by simp [opB]
    refine ⟨script_writer_put_ans (b) 1 [o.kind, o.image] ⟨by omega, by omega⟩ (by simp only [List.length_append, putL_len, pxB_len, List.length_cons, List.length_nil]; omega), script_writer_put_ans (b ++ putL 1 [o.kind, o.image]) 4 [o.x, o.y] ⟨by omega, by omega⟩ (by simp only [List.length_append, putL_len, pxB_len, List.length_cons, List.length_nil]; omega), script_writer_put_ans (b ++ putL 1 [o.kind, o.image] ++ putL 4 [o.x, o.y]) 1 [o.mask] ⟨by omega, by omega⟩ (by simp only [List.length_append, putL_len, pxB_len, List.length_cons, List.length_nil]; omega), script_writer_put_ans (b ++ putL 1 [o.kind, o.image] ++ putL 4 [o.x, o.y] ++ putL 1 [o.mask]) 4 [o.mx, o.my] ⟨by omega, by omega⟩ (by simp only [List.length_append, putL_len, pxB_len, List.length_cons, List.length_nil]; omega), script_writer_put_ans (b ++ putL 1 [o.kind, o.image] ++ putL 4 [o.x, o.y] ++ putL 1 [o.mask] ++ putL 4 [o.mx, o.my]) 2 [o.opac] ⟨by omega, by omega⟩ (by simp only [List.length_append, putL_len, pxB_len, List.length_cons, List.length_nil]; omega), fl, script_writer_put_ans (b ++ putL 1 [o.kind, o.image] ++ putL 4 [o.x, o.y] ++ putL 1 [o.mask] ++ putL 4 [o.mx, o.my] ++ putL 2 [o.opac]) 1 [o.oper, o.mode, flagO o] ⟨by omega, by omega⟩ (by simp only [List.length_append, putL_len, pxB_len, List.length_cons, List.length_nil]; omega), ⟨?_, ?_⟩, trivial⟩
    · rw [← e]
    · rw [← e]

end Go.Proofs.Ytkfgmaecbclgfaa

/-
  Encodable, by the program.
-/
namespace Go.Proofs.Ytkfgmaecbclgfaa
open Go.RowKit
set_option linter.unusedVariables false
set_option linter.unusedSimpArgs false
attribute [local irreducible] Ans AnsO AnsG AnsN AnsI

set_option maxRecDepth 4000
theorem valid_formed (m : Im) : (m.valid 0 = 0 ∨ m.valid 0 = 8) ↔ m.formed = true := by
  unfold Im.valid Im.formed
  cases fitsP m.w m.h <;> cases m.inner <;> simp
  repeat' split
  all_goals omega
theorem all_take' {α : Type} {f : α → Bool} {l : List α} {k : Nat} (h : k < l.length) : (l.take (k + 1)).all f = ((l.take k).all f && f l[k]) := by
  rw [List.take_succ_eq_append_getElem h, List.all_append]
  simp
theorem all_false' {α : Type} {f : α → Bool} {l : List α} {k : Nat} (h : k < l.length) (hf : f l[k] = false) : l.all f = false := by
  rw [List.all_eq_false]
  exact ⟨l[k], List.getElem_mem h, by rw [hf]; simp⟩
theorem sizeIm_le {m : Im} (h : m.formed = true) : 19 ≤ sizeIm m ∧ sizeIm m ≤ 167772169 ∧ 1 ≤ m.w * m.h ∧ m.w * m.h ≤ 16777216 := by
  have h1 : fitsP m.w m.h = true := by unfold Im.formed at h; exact (Bool.and_eq_true_iff.1 h).1
  have h2 : 1 ≤ m.w * m.h ∧ m.w * m.h ≤ 16777216 := by
    simp only [fitsP, Bool.and_eq_true, decide_eq_true_eq] at h1
    have : 0 < m.w * m.h := Int.mul_pos (by omega) (by omega)
    omega
  unfold sizeIm
  split <;> omega
theorem sizeIms_take {l : List Im} {k : Nat} (h : k < l.length) : sizeIms (l.take (k + 1)) = sizeIms (l.take k) + sizeIm l[k] := by
  rw [List.take_succ_eq_append_getElem h, sizeIms_app]
  simp [sizeIms]
theorem sizeIms_le {l : List Im} (h : l.all Im.formed = true) : 0 ≤ sizeIms l ∧ sizeIms l ≤ 167772169 * (l.length : Int) := by
  induction l with
  | nil => simp [sizeIms]
  | cons m l ih =>
    simp only [List.all_cons, Bool.and_eq_true] at h
    have := ih h.2
    have := sizeIm_le h.1
    simp only [sizeIms, List.length_cons]
    omega
def gamEc : Gam where
 pure := fun f xs =>
  if f = 69 then (match xs with | [.agg [.int _ w, .int _ h, .bool so, .int _ c0, .int _ c1, .int _ c2, .int _ ca, .int _ cf, .int _ w0, .int _ h0, .int _ s0, .sl n0 xs0, .int _ w1, .int _ h1, .int _ s1, .sl n1 xs1, .int _ w2, .int _ h2, .int _ s2, .sl n2 xs2, .int _ w3, .int _ h3, .int _ s3, .sl n3 xs3, .int _ w4, .int _ h4, .int _ s4, .sl n4 xs4], .d (.int _ most)] => some (RV.d (DV.int .i64 (Im.valid ⟨w, h, so, ⟨c0, c1, c2, ca, cf⟩, ⟨w0, h0, s0, n0, xs0⟩, ⟨w1, h1, s1, n1, xs1⟩, ⟨w2, h2, s2, n2, xs2⟩, ⟨w3, h3, s3, n3, xs3⟩, ⟨w4, h4, s4, n4, xs4⟩⟩ most))) | _ => none) else
  if f = 36 then (match xs with | [.d (.sl n xs)] => some (RV.d (DV.bool (fitL 0 255 (ints (xs))))) | _ => none) else
  if f = 37 then (match xs with | [.d (.sl n xs)] => some (RV.d (DV.bool (fitL (-2147483648) 2147483647 (ints (xs))))) | _ => none) else
  if f = 38 then (match xs with | [.d (.sl n xs)] => some (RV.d (DV.bool (fitL 0 4294967295 (ints (xs))))) | _ => none) else
  if f = 39 then (match xs with | [.agg [.int _ w, .int _ h, .bool so, .int _ c0, .int _ c1, .int _ c2, .int _ ca, .int _ cf, .int _ w0, .int _ h0, .int _ s0, .sl n0 xs0, .int _ w1, .int _ h1, .int _ s1, .sl n1 xs1, .int _ w2, .int _ h2, .int _ s2, .sl n2 xs2, .int _ w3, .int _ h3, .int _ s3, .sl n3 xs3, .int _ w4, .int _ h4, .int _ s4, .sl n4 xs4]] => some (RV.d (DV.bool (Im.formed ⟨w, h, so, ⟨c0, c1, c2, ca, cf⟩, ⟨w0, h0, s0, n0, xs0⟩, ⟨w1, h1, s1, n1, xs1⟩, ⟨w2, h2, s2, n2, xs2⟩, ⟨w3, h3, s3, n3, xs3⟩, ⟨w4, h4, s4, n4, xs4⟩⟩))) | _ => none) else
  none
 modes := fun f =>
  none
 proc := fun f xs bs =>
  none
 iter := fun f cs =>
  none

def script_wellFormed_ann (m : Im) : Ann := Ann.leaf
theorem script_wellFormed_vc (m : Im) : vcg Try.prog gamEc 12 (bodyOf Try.f39) (script_wellFormed_ann m) kn0 (start [RV.agg [DV.int .i64 m.w, DV.int .i64 m.h, DV.bool m.so, DV.int .u16 m.c.a, DV.int .u16 m.c.b, DV.int .u16 m.c.c, DV.int .u16 m.c.al, DV.int .u16 m.c.f, DV.int .i64 m.p0.w, DV.int .i64 m.p0.h, DV.int .i64 m.p0.s, DV.sl m.p0.n m.p0.xs, DV.int .i64 m.p1.w, DV.int .i64 m.p1.h, DV.int .i64 m.p1.s, DV.sl m.p1.n m.p1.xs, DV.int .i64 m.p2.w, DV.int .i64 m.p2.h, DV.int .i64 m.p2.s, DV.sl m.p2.n m.p2.xs, DV.int .i64 m.p3.w, DV.int .i64 m.p3.h, DV.int .i64 m.p3.s, DV.sl m.p3.n m.p3.xs, DV.int .i64 m.p4.w, DV.int .i64 m.p4.h, DV.int .i64 m.p4.s, DV.sl m.p4.n m.p4.xs]]) (post Try.prog Try.f39.results.toList (· = RV.d (DV.bool (Im.formed m)))) =
  (let zz0 := ((Im.valid m (0 : Int)) == (0 : Int)); True ∧ True ∧ True ∧ (Ans Try.prog 69 [(imR (m)), RV.d (DV.int .u16 0)] (RV.d (DV.int .i64 (Im.valid m (0 : Int))))) ∧ True ∧ True ∧ True ∧ True ∧ ((zz0 = false → True ∧ True ∧ True ∧ True ∧ RV.d (DV.bool ((Im.valid m (0 : Int)) == (8 : Int))) = RV.d (DV.bool (Im.formed m))) ∧ (zz0 = (!false) → True ∧ True ∧ RV.d (DV.bool true) = RV.d (DV.bool (Im.formed m))))) := by kernel_rfl
theorem script_wellFormed_ans (m : Im) (hu : m.isU) : Ans Try.prog 39 [RV.agg [DV.int .i64 m.w, DV.int .i64 m.h, DV.bool m.so, DV.int .u16 m.c.a, DV.int .u16 m.c.b, DV.int .u16 m.c.c, DV.int .u16 m.c.al, DV.int .u16 m.c.f, DV.int .i64 m.p0.w, DV.int .i64 m.p0.h, DV.int .i64 m.p0.s, DV.sl m.p0.n m.p0.xs, DV.int .i64 m.p1.w, DV.int .i64 m.p1.h, DV.int .i64 m.p1.s, DV.sl m.p1.n m.p1.xs, DV.int .i64 m.p2.w, DV.int .i64 m.p2.h, DV.int .i64 m.p2.s, DV.sl m.p2.n m.p2.xs, DV.int .i64 m.p3.w, DV.int .i64 m.p3.h, DV.int .i64 m.p3.s, DV.sl m.p3.n m.p3.xs, DV.int .i64 m.p4.w, DV.int .i64 m.p4.h, DV.int .i64 m.p4.s, DV.sl m.p4.n m.p4.xs]] (RV.d (DV.bool (Im.formed m))) :=
  ans_of_vcg (Γ := gamEc) (script_wellFormed_ann m) mixed_ Try.func39 rfl (Nat.le_of_ble_eq_true rfl) fun hwf => by
    refine Eq.mpr (script_wellFormed_vc m) ?_
    simp only [true_and, and_true, RV.d.injEq, RV.agg.injEq, RV.tup.injEq, DV.bool.injEq, DV.int.injEq, DV.sl.injEq, List.cons.injEq, forall_const, Bool.not_false, Bool.not_true, Bool.not_eq_true', Bool.not_eq_false', decide_eq_true_eq, decide_eq_false_iff_not, Int.toNat_natCast, imQ, imQr, imC, oqQ, oqQr, oqC, oqD, pxQ, pxQr, pxC, pxD]
    have := image_Valid_im m 0 hu
    have hf := valid_formed m
    refine ⟨this, fun q1 => ?_, fun q1 => ?_⟩
    · have q1 : ¬ m.valid 0 = 0 := by simpa using q1
      by_cases q2 : m.valid 0 = 8
      · rw [hf.1 (.inr q2), q2]; rfl
      · cases q3 : m.formed with
        | true => have := hf.2 q3; omega
        | false => simp [q2]
    · have q1 : m.valid 0 = 0 := by simpa using q1
      exact (hf.1 (.inl q1)).symm

def script_Encodable_ann (s : Scr) : Ann := let zz0 := (DV.sl s.ims.length (ims s.ims)); let zz1 := (DV.sl s.ops.length (ops s.ops)); (Ann.seq Ann.leaf (Ann.seq Ann.leaf (Ann.seq Ann.leaf (Ann.seq (Ann.seq Ann.leaf (Ann.loop ⟨Nat, fun k => k ≤ s.ims.length ∧ (s.ims.take k).all Im.formed = true, fun k => ⟨[(1, AV.one (Cl.ptr 1 0)), (3, AV.one (Cl.d (DV.int .i64 (sizeS s (s.ims.take k))))), (69, AV.one (Cl.d zz0)), (70, AV.one (Cl.d (DV.int .i64 ((s.ims.length : Nat) : Int)))), (71, AV.one (Cl.d (DV.int .i64 ((k : Nat) : Int))))], [(1, Bx.cells [Cl.d (DV.int .i64 s.bits), Cl.d (DV.int .i64 s.c.a), Cl.d (DV.int .i64 s.c.b), Cl.d (DV.int .i64 s.c.c), Cl.d (DV.int .i64 s.c.d), Cl.d (DV.int .i64 s.tw), Cl.d (DV.int .i64 s.th), Cl.d (DV.sl s.ord.length (is s.ord)), Cl.d zz0, Cl.d zz1])]⟩, fun k => s.ims.length - k⟩ fun k => Ann.leaf)) (Ann.seq (Ann.seq Ann.leaf (Ann.loop ⟨Nat, fun j => j ≤ s.ops.length ∧ (s.ops.take j).all opOk = true, fun j => ⟨[(3, AV.one (Cl.d (DV.int .i64 (sizeS s s.ims)))), (93, AV.one (Cl.d zz1)), (94, AV.one (Cl.d (DV.int .i64 ((s.ops.length : Nat) : Int)))), (95, AV.one (Cl.d (DV.int .i64 ((j : Nat) : Int))))], []⟩, fun j => s.ops.length - j⟩ fun j => Ann.leaf)) Ann.leaf)))))
theorem script_Encodable_vc (s : Scr) : vcg Try.prog gamEc 128 (bodyOf Try.f14) (script_Encodable_ann s) kn0 (start [RV.agg [DV.int .i64 s.bits, DV.int .i64 s.c.a, DV.int .i64 s.c.b, DV.int .i64 s.c.c, DV.int .i64 s.c.d, DV.int .i64 s.tw, DV.int .i64 s.th, DV.sl s.ord.length (is s.ord), DV.sl s.ims.length (ims s.ims), DV.sl s.ops.length (ops s.ops)]]) (post Try.prog Try.f14.results.toList (· = RV.d (DV.bool (encOk s)))) =
  (let zz0 := fun (k : Nat) => (k ≤ s.ims.length ∧ (s.ims.take k).all Im.formed = true); let zz1 := (DV.sl s.ims.length (ims s.ims) = DV.sl s.ims.length (ims s.ims)); let zz2 := (DV.int .i64 ((s.ims.length : Nat) : Int) = DV.int .i64 ((s.ims.length : Nat) : Int)); let zz3 := [DV.int .i64 s.bits, DV.int .i64 s.c.a, DV.int .i64 s.c.b, DV.int .i64 s.c.c, DV.int .i64 s.c.d, DV.int .i64 s.tw, DV.int .i64 s.th, DV.sl s.ord.length (is s.ord), DV.sl s.ims.length (ims s.ims), DV.sl s.ops.length (ops s.ops)]; let zz4 := ((zz3 = zz3) ∧ True); let zz5 := fun (k' : Nat) => (k' ≤ s.ims.length ∧ (s.ims.take k').all Im.formed = true); let zz6 := fun (k : Nat) => fun (k' : Nat) => (s.ims.length - k' < s.ims.length - k); let zz7 := fun (k : Nat) => fun (k' : Nat) => (DV.int .i64 (IntKind.wrap .i64 (((k : Nat) : Int) + (1 : Int))) = DV.int .i64 ((k' : Nat) : Int)); let zz8 := fun (j : Nat) => (j ≤ s.ops.length ∧ (s.ops.take j).all opOk = true); let zz9 := (DV.sl s.ops.length (ops s.ops) = DV.sl s.ops.length (ops s.ops)); let zz10 := (DV.int .i64 ((s.ops.length : Nat) : Int) = DV.int .i64 ((s.ops.length : Nat) : Int)); True ∧ True ∧ True ∧ True ∧ True ∧ (Ans Try.prog 36 [RV.d (DV.sl 1 ([DV.int .i64 s.bits]))] (RV.d (DV.bool (fitL 0 255 (ints (([DV.int .i64 s.bits]))))))) ∧ True ∧ True ∧ (((!(fitL 0 255 (ints (([DV.int .i64 s.bits]))))) = false → True ∧ True ∧ True ∧ True ∧ True ∧ True ∧ True ∧ True ∧ True ∧ True ∧ True ∧ True ∧ True ∧ (Ans Try.prog 37 [RV.d (DV.sl 4 ([DV.int .i64 s.c.a, DV.int .i64 s.c.b, DV.int .i64 s.c.c, DV.int .i64 s.c.d]))] (RV.d (DV.bool (fitL (-2147483648) 2147483647 (ints (([DV.int .i64 s.c.a, DV.int .i64 s.c.b, DV.int .i64 s.c.c, DV.int .i64 s.c.d]))))))) ∧ True ∧ True ∧ True ∧ (((!(fitL (-2147483648) 2147483647 (ints (([DV.int .i64 s.c.a, DV.int .i64 s.c.b, DV.int .i64 s.c.c, DV.int .i64 s.c.d]))))) = false → True ∧ True ∧ True ∧ True ∧ True ∧ (Ans Try.prog 38 [RV.d (DV.sl 2 ([DV.int .i64 s.tw, DV.int .i64 s.th]))] (RV.d (DV.bool (fitL 0 4294967295 (ints (([DV.int .i64 s.tw, DV.int .i64 s.th]))))))) ∧ True ∧ True ∧ True ∧ (((!(fitL 0 4294967295 (ints (([DV.int .i64 s.tw, DV.int .i64 s.th]))))) = false → True ∧ True ∧ (Ans Try.prog 38 [RV.d (DV.sl s.ord.length (is s.ord))] (RV.d (DV.bool (fitL 0 4294967295 (ints ((is s.ord))))))) ∧ True ∧ True ∧ True ∧ (((!(fitL 0 4294967295 (ints ((is s.ord))))) = false → True ∧ True ∧ True ∧ True ∧ True ∧ True ∧ (((decide (((s.ims.length : Nat) : Int) > (64 : Int))) = false → True ∧ True ∧ True ∧ True ∧ True ∧ (((decide (((s.ops.length : Nat) : Int) > (4096 : Int))) = true → True ∧ RV.d (DV.bool false) = RV.d (DV.bool (encOk s))) ∧ ((decide (((s.ops.length : Nat) : Int) > (4096 : Int))) = false → True ∧ True ∧ True ∧ True ∧ True ∧ True ∧ True ∧ True ∧ True ∧ True ∧ True ∧ True ∧ True ∧ True ∧ True ∧ ((∃ k : Nat, (zz0 k) ∧ (((0 = 0) ∧ (DV.int .i64 (IntKind.wrap .i64 ((IntKind.wrap .i64 ((34 : Int) + (IntKind.wrap .i64 ((4 : Int) * ((s.ord.length : Nat) : Int))))) + (IntKind.wrap .i64 ((24 : Int) * ((s.ops.length : Nat) : Int))))) = DV.int .i64 (sizeS s (s.ims.take k))) ∧ zz1 ∧ zz2 ∧ (DV.int .i64 0 = DV.int .i64 ((k : Nat) : Int)) ∧ True) ∧ zz4)) ∧ ∀ k : Nat, (zz0 k) → True ∧ (((decide (((k : Nat) : Int) < ((s.ims.length : Nat) : Int))) = true → (0 ≤ ((k : Nat) : Int) ∧ ((k : Nat) : Int) < ((s.ims.length : Nat) : Int) ∧ ((k : Nat) : Int).toNat * 28 < (ims s.ims).length) ∧ ((imQr (ims s.ims) (((k : Nat) : Int).toNat * 28))) ∧ True ∧ True ∧ True ∧ (Ans Try.prog 39 [imR (imQ (ims s.ims) (((k : Nat) : Int).toNat * 28))] (RV.d (DV.bool (Im.formed (imQ (ims s.ims) (((k : Nat) : Int).toNat * 28)))))) ∧ True ∧ (((!(Im.formed (imQ (ims s.ims) (((k : Nat) : Int).toNat * 28)))) = true → True ∧ RV.d (DV.bool false) = RV.d (DV.bool (encOk s))) ∧ ((!(Im.formed (imQ (ims s.ims) (((k : Nat) : Int).toNat * 28)))) = false → True ∧ True ∧ True ∧ True ∧ (((!(bAt (ims s.ims) (((k : Nat) : Int).toNat * 28 + 1 + 1))) = true → True ∧ True ∧ True ∧ True ∧ True ∧ True ∧ True ∧ True ∧ True ∧ True ∧ True ∧ True ∧ True ∧ True ∧ ∃ k' : Nat, (zz5 k') ∧ (zz6 k k') ∧ (((0 = 0) ∧ (DV.int .i64 (IntKind.wrap .i64 ((sizeS s (s.ims.take k)) + (IntKind.wrap .i64 ((9 : Int) + (IntKind.wrap .i64 ((10 : Int) * (IntKind.wrap .i64 ((nAt (ims s.ims) (((k : Nat) : Int).toNat * 28)) * (nAt (ims s.ims) (((k : Nat) : Int).toNat * 28 + 1)))))))))) = DV.int .i64 (sizeS s (s.ims.take k'))) ∧ zz1 ∧ zz2 ∧ (zz7 k k') ∧ True) ∧ zz4)) ∧ ((!(bAt (ims s.ims) (((k : Nat) : Int).toNat * 28 + 1 + 1))) = false → True ∧ True ∧ True ∧ True ∧ True ∧ True ∧ True ∧ True ∧ ∃ k' : Nat, (zz5 k') ∧ (zz6 k k') ∧ (((0 = 0) ∧ (DV.int .i64 (IntKind.wrap .i64 ((sizeS s (s.ims.take k)) + (IntKind.wrap .i64 ((9 : Int) + (IntKind.wrap .i64 ((10 : Int) * (1 : Int))))))) = DV.int .i64 (sizeS s (s.ims.take k'))) ∧ zz1 ∧ zz2 ∧ (zz7 k k') ∧ True) ∧ zz4)))))) ∧ ((decide (((k : Nat) : Int) < ((s.ims.length : Nat) : Int))) = false → True ∧ True ∧ True ∧ True ∧ ((∃ j : Nat, (zz8 j) ∧ (((DV.int .i64 (sizeS s (s.ims.take k)) = DV.int .i64 (sizeS s s.ims)) ∧ zz9 ∧ zz10 ∧ (DV.int .i64 0 = DV.int .i64 ((j : Nat) : Int)) ∧ True) ∧ (True))) ∧ ∀ j : Nat, (zz8 j) → True ∧ (((decide (((j : Nat) : Int) < ((s.ops.length : Nat) : Int))) = true → (0 ≤ ((j : Nat) : Int) ∧ ((j : Nat) : Int) < ((s.ops.length : Nat) : Int) ∧ ((j : Nat) : Int).toNat * 12 < (ops s.ops).length) ∧ ((oqQr (ops s.ops) (((j : Nat) : Int).toNat * 12))) ∧ True ∧ True ∧ True ∧ True ∧ True ∧ True ∧ True ∧ True ∧ True ∧ True ∧ True ∧ True ∧ True ∧ (Ans Try.prog 36 [RV.d (DV.sl 5 ([DV.int .i64 (nAt (ops s.ops) (((j : Nat) : Int).toNat * 12)), DV.int .i64 (nAt (ops s.ops) (((j : Nat) : Int).toNat * 12 + 1)), DV.int .i64 (nAt (ops s.ops) (((j : Nat) : Int).toNat * 12 + 1 + 1 + 1 + 1)), DV.int .i64 (nAt (ops s.ops) (((j : Nat) : Int).toNat * 12 + 1 + 1 + 1 + 1 + 1 + 1 + 1 + 1)), DV.int .i64 (nAt (ops s.ops) (((j : Nat) : Int).toNat * 12 + 1 + 1 + 1 + 1 + 1 + 1 + 1 + 1 + 1))]))] (RV.d (DV.bool (fitL 0 255 (ints (([DV.int .i64 (nAt (ops s.ops) (((j : Nat) : Int).toNat * 12)), DV.int .i64 (nAt (ops s.ops) (((j : Nat) : Int).toNat * 12 + 1)), DV.int .i64 (nAt (ops s.ops) (((j : Nat) : Int).toNat * 12 + 1 + 1 + 1 + 1)), DV.int .i64 (nAt (ops s.ops) (((j : Nat) : Int).toNat * 12 + 1 + 1 + 1 + 1 + 1 + 1 + 1 + 1)), DV.int .i64 (nAt (ops s.ops) (((j : Nat) : Int).toNat * 12 + 1 + 1 + 1 + 1 + 1 + 1 + 1 + 1 + 1))]))))))) ∧ True ∧ True ∧ (((!(fitL 0 255 (ints (([DV.int .i64 (nAt (ops s.ops) (((j : Nat) : Int).toNat * 12)), DV.int .i64 (nAt (ops s.ops) (((j : Nat) : Int).toNat * 12 + 1)), DV.int .i64 (nAt (ops s.ops) (((j : Nat) : Int).toNat * 12 + 1 + 1 + 1 + 1)), DV.int .i64 (nAt (ops s.ops) (((j : Nat) : Int).toNat * 12 + 1 + 1 + 1 + 1 + 1 + 1 + 1 + 1)), DV.int .i64 (nAt (ops s.ops) (((j : Nat) : Int).toNat * 12 + 1 + 1 + 1 + 1 + 1 + 1 + 1 + 1 + 1))]))))) = false → True ∧ True ∧ True ∧ True ∧ True ∧ True ∧ True ∧ True ∧ True ∧ (Ans Try.prog 37 [RV.d (DV.sl 4 ([DV.int .i64 (nAt (ops s.ops) (((j : Nat) : Int).toNat * 12 + 1 + 1)), DV.int .i64 (nAt (ops s.ops) (((j : Nat) : Int).toNat * 12 + 1 + 1 + 1)), DV.int .i64 (nAt (ops s.ops) (((j : Nat) : Int).toNat * 12 + 1 + 1 + 1 + 1 + 1)), DV.int .i64 (nAt (ops s.ops) (((j : Nat) : Int).toNat * 12 + 1 + 1 + 1 + 1 + 1 + 1))]))] (RV.d (DV.bool (fitL (-2147483648) 2147483647 (ints (([DV.int .i64 (nAt (ops s.ops) (((j : Nat) : Int).toNat * 12 + 1 + 1)), DV.int .i64 (nAt (ops s.ops) (((j : Nat) : Int).toNat * 12 + 1 + 1 + 1)), DV.int .i64 (nAt (ops s.ops) (((j : Nat) : Int).toNat * 12 + 1 + 1 + 1 + 1 + 1)), DV.int .i64 (nAt (ops s.ops) (((j : Nat) : Int).toNat * 12 + 1 + 1 + 1 + 1 + 1 + 1))]))))))) ∧ True ∧ True ∧ (((!(fitL (-2147483648) 2147483647 (ints (([DV.int .i64 (nAt (ops s.ops) (((j : Nat) : Int).toNat * 12 + 1 + 1)), DV.int .i64 (nAt (ops s.ops) (((j : Nat) : Int).toNat * 12 + 1 + 1 + 1)), DV.int .i64 (nAt (ops s.ops) (((j : Nat) : Int).toNat * 12 + 1 + 1 + 1 + 1 + 1)), DV.int .i64 (nAt (ops s.ops) (((j : Nat) : Int).toNat * 12 + 1 + 1 + 1 + 1 + 1 + 1))]))))) = true → True ∧ RV.d (DV.bool false) = RV.d (DV.bool (encOk s))) ∧ ((!(fitL (-2147483648) 2147483647 (ints (([DV.int .i64 (nAt (ops s.ops) (((j : Nat) : Int).toNat * 12 + 1 + 1)), DV.int .i64 (nAt (ops s.ops) (((j : Nat) : Int).toNat * 12 + 1 + 1 + 1)), DV.int .i64 (nAt (ops s.ops) (((j : Nat) : Int).toNat * 12 + 1 + 1 + 1 + 1 + 1)), DV.int .i64 (nAt (ops s.ops) (((j : Nat) : Int).toNat * 12 + 1 + 1 + 1 + 1 + 1 + 1))]))))) = false → True ∧ True ∧ ∃ j' : Nat, (j' ≤ s.ops.length ∧ (s.ops.take j').all opOk = true) ∧ (s.ops.length - j' < s.ops.length - j) ∧ (((DV.int .i64 (sizeS s s.ims) = DV.int .i64 (sizeS s s.ims)) ∧ zz9 ∧ zz10 ∧ (DV.int .i64 (IntKind.wrap .i64 (((j : Nat) : Int) + (1 : Int))) = DV.int .i64 ((j' : Nat) : Int)) ∧ True) ∧ (True))))) ∧ ((!(fitL 0 255 (ints (([DV.int .i64 (nAt (ops s.ops) (((j : Nat) : Int).toNat * 12)), DV.int .i64 (nAt (ops s.ops) (((j : Nat) : Int).toNat * 12 + 1)), DV.int .i64 (nAt (ops s.ops) (((j : Nat) : Int).toNat * 12 + 1 + 1 + 1 + 1)), DV.int .i64 (nAt (ops s.ops) (((j : Nat) : Int).toNat * 12 + 1 + 1 + 1 + 1 + 1 + 1 + 1 + 1)), DV.int .i64 (nAt (ops s.ops) (((j : Nat) : Int).toNat * 12 + 1 + 1 + 1 + 1 + 1 + 1 + 1 + 1 + 1))]))))) = (!false) → True ∧ True ∧ RV.d (DV.bool false) = RV.d (DV.bool (encOk s))))) ∧ ((decide (((j : Nat) : Int) < ((s.ops.length : Nat) : Int))) = false → True ∧ True ∧ True ∧ RV.d (DV.bool (decide ((sizeS s s.ims) ≤ (67108864 : Int)))) = RV.d (DV.bool (encOk s))))))))))) ∧ ((decide (((s.ims.length : Nat) : Int) > (64 : Int))) = (!false) → True ∧ True ∧ RV.d (DV.bool false) = RV.d (DV.bool (encOk s))))) ∧ ((!(fitL 0 4294967295 (ints ((is s.ord))))) = (!false) → True ∧ True ∧ True ∧ True ∧ RV.d (DV.bool false) = RV.d (DV.bool (encOk s))))) ∧ ((!(fitL 0 4294967295 (ints (([DV.int .i64 s.tw, DV.int .i64 s.th]))))) = (!false) → True ∧ True ∧ True ∧ True ∧ True ∧ True ∧ RV.d (DV.bool false) = RV.d (DV.bool (encOk s))))) ∧ ((!(fitL (-2147483648) 2147483647 (ints (([DV.int .i64 s.c.a, DV.int .i64 s.c.b, DV.int .i64 s.c.c, DV.int .i64 s.c.d]))))) = (!false) → True ∧ True ∧ True ∧ True ∧ True ∧ True ∧ True ∧ True ∧ RV.d (DV.bool false) = RV.d (DV.bool (encOk s))))) ∧ ((!(fitL 0 255 (ints (([DV.int .i64 s.bits]))))) = (!false) → True ∧ True ∧ True ∧ True ∧ True ∧ True ∧ True ∧ True ∧ True ∧ True ∧ RV.d (DV.bool false) = RV.d (DV.bool (encOk s))))) := by kernel_rfl
theorem script_Encodable_ans (s : Scr) (hM : ∀ m ∈ s.ims, m.isU) (hos : s.ord.length ≤ 17592186044416) : Ans Try.prog 14 [RV.agg [DV.int .i64 s.bits, DV.int .i64 s.c.a, DV.int .i64 s.c.b, DV.int .i64 s.c.c, DV.int .i64 s.c.d, DV.int .i64 s.tw, DV.int .i64 s.th, DV.sl s.ord.length (is s.ord), DV.sl s.ims.length (ims s.ims), DV.sl s.ops.length (ops s.ops)]] (RV.d (DV.bool (encOk s))) :=
  ans_of_vcg (Γ := gamEc) (script_Encodable_ann s) mixed_ Try.func14 rfl (Nat.le_of_ble_eq_true rfl) fun hwf => by
    refine Eq.mpr (script_Encodable_vc s) ?_
    simp only [true_and, and_true, RV.d.injEq, RV.agg.injEq, RV.tup.injEq, DV.bool.injEq, DV.int.injEq, DV.sl.injEq, List.cons.injEq, forall_const, Bool.not_false, Bool.not_true, Bool.not_eq_true', Bool.not_eq_false', decide_eq_true_eq, decide_eq_false_iff_not, Int.toNat_natCast, imQ, imQr, imC, oqQ, oqQr, oqC, oqD, pxQ, pxQr, pxC, pxD]
    have a1 := script_short_ans [s.bits]
    have a2 := script_signed_ans [s.c.a, s.c.b, s.c.c, s.c.d]
    have a3 := script_unsigned_ans [s.tw, s.th]
    have a4 := script_unsigned_ans s.ord
    clear hwf
    have fal : encHd s = false → false = encOk s := fun h => by simp [encOk, h]
    simp only [ints_is] at a4 ⊢
    refine ⟨a1, fun h1 => ⟨a2, fun h2 => ⟨a3, fun h3 => ⟨a4, fun h4 => ⟨fun h5 => ⟨fun h6 => ?_, fun h6 => ?_⟩, fun h5 => ?_⟩, fun h4 => ?_⟩, fun h3 => ?_⟩, fun h2 => ?_⟩, fun h1 => ?_⟩
    · exact fal (by simp [encHd]; omega)
    · have g1 : fitL 0 255 [s.bits] = true := h1
      have g2 : fitL (-2147483648) 2147483647 [s.c.a, s.c.b, s.c.c, s.c.d] = true := h2
      have g3 : fitL 0 4294967295 [s.tw, s.th] = true := h3
      have hd : encHd s = true := by simp only [encHd, g1, g2, g3, h4, Bool.and_true, Bool.true_and, Bool.and_eq_true, decide_eq_true_eq]; omega
      have w0 : ∀ n : Int, -1000000000000000 ≤ n → n ≤ 1000000000000000 → IntKind.wrap .i64 n = n := fun n a b => IntWalk.i64_in _ ⟨by omega, by omega⟩
      have hs0 : IntKind.wrap .i64 (IntKind.wrap .i64 (34 + IntKind.wrap .i64 (4 * (s.ord.length : Int))) + IntKind.wrap .i64 (24 * (s.ops.length : Int))) = sizeS s [] := by
        rw [w0 (4 * (s.ord.length : Int)) (by omega) (by omega), w0 (34 + 4 * (s.ord.length : Int)) (by omega) (by omega), w0 (24 * (s.ops.length : Int)) (by omega) (by omega), w0 _ (by omega) (by omega)]
        simp [sizeS, sizeIms]
      refine ⟨⟨0, ⟨Nat.zero_le _, by simp⟩, by rw [hs0]; rfl, rfl⟩, fun k hk => ⟨fun hlt => ?_, fun hge => ?_⟩⟩
      · obtain ⟨k1, k2⟩ := hk
        have hk : k < s.ims.length := by omega
        have q1 := ims_rd hk
        have q2 := ims_at hk
        have w1 : IntKind.wrap .i64 ((k : Int) + 1) = ((k + 1 : Nat) : Int) := by rw [w0 _ (by omega) (by omega)]; omega
        have wf := script_wellFormed_ans s.ims[k] (hM _ (List.getElem_mem hk))
        simp only [q2, w1]
        refine ⟨⟨by omega, by omega, by rw [ims_length]; omega⟩, q1, wf, fun h7 => ?_, fun h7 => ?_⟩
        · have h7 : s.ims[k].formed = false := h7
          simp [encOk, all_false' hk h7]
        · have h7 : s.ims[k].formed = true := h7
          have hz := sizeIm_le h7
          have hzl := sizeIms_le k2
          have hl : (s.ims.take k).length ≤ 64 := by rw [List.length_take]; omega
          have hz2 : sizeS s (s.ims.take (k + 1)) = sizeS s (s.ims.take k) + sizeIm s.ims[k] := by simp only [sizeS, sizeIms_take hk]; omega
          have hz3 : 0 ≤ sizeS s (s.ims.take k) ∧ sizeS s (s.ims.take k) ≤ 100000000000000 := by simp only [sizeS]; omega
          have hin : k + 1 ≤ s.ims.length ∧ (s.ims.take (k + 1)).all Im.formed = true := ⟨by omega, by rw [all_take' hk, k2, h7]; rfl⟩
          refine ⟨fun h8 => ⟨k + 1, hin, by omega, ?_, rfl⟩, fun h8 => ⟨k + 1, hin, by omega, ?_, rfl⟩⟩
          · have hsz : sizeIm s.ims[k] = 9 + 10 * (s.ims[k].w * s.ims[k].h) := by unfold sizeIm; rw [if_neg (by rw [h8]; simp)]
            rw [hz2, hsz]
            generalize s.ims[k].w * s.ims[k].h = a at *
            rw [w0 a (by omega) (by omega), w0 (10 * a) (by omega) (by omega), w0 (9 + 10 * a) (by omega) (by omega), w0 _ (by omega) (by omega)]
          · have hsz : sizeIm s.ims[k] = 19 := by unfold sizeIm; rw [if_pos h8]
            rw [hz2, hsz]
            rw [w0 (10 * 1) (by omega) (by omega), w0 (9 + 10 * 1) (by omega) (by omega), w0 _ (by omega) (by omega)]
            omega
      · obtain ⟨k1, k2⟩ := hk
        have : k = s.ims.length := by omega
        subst this
        rw [List.take_length] at k2
        refine ⟨⟨0, ⟨Nat.zero_le _, by simp⟩, by rw [List.take_length], rfl⟩, fun j hj => ⟨fun hlt => ?_, fun hge => ?_⟩⟩
        · obtain ⟨j1, j2⟩ := hj
          have hj : j < s.ops.length := by omega
          have q1 := ops_rd hj
          have q2 := ops_at hj
          have w1 : IntKind.wrap .i64 ((j : Int) + 1) = ((j + 1 : Nat) : Int) := by rw [w0 _ (by omega) (by omega)]; omega
          have b1 := script_short_ans [s.ops[j].kind, s.ops[j].image, s.ops[j].mask, s.ops[j].oper, s.ops[j].mode]
          have b2 := script_signed_ans [s.ops[j].x, s.ops[j].y, s.ops[j].mx, s.ops[j].my]
          simp only [q2, w1]
          have bad : opOk s.ops[j] = false → false = encOk s := fun h => by simp [encOk, all_false' hj h]
          refine ⟨⟨by omega, by omega, by rw [ops_length]; omega⟩, q1, b1, fun h7 => ⟨b2, fun h8 => bad ?_, fun h8 => ⟨j + 1, ⟨by omega, ?_⟩, by omega, rfl⟩⟩, fun h7 => bad ?_⟩
          · have h8 : fitL (-2147483648) 2147483647 [s.ops[j].x, s.ops[j].y, s.ops[j].mx, s.ops[j].my] = false := h8
            simp [opOk, h8]
          · have h7 : fitL 0 255 [s.ops[j].kind, s.ops[j].image, s.ops[j].mask, s.ops[j].oper, s.ops[j].mode] = true := h7
            have h8 : fitL (-2147483648) 2147483647 [s.ops[j].x, s.ops[j].y, s.ops[j].mx, s.ops[j].my] = true := h8
            rw [all_take' hj, j2]
            simp [opOk, h7, h8]
          · have h7 : fitL 0 255 [s.ops[j].kind, s.ops[j].image, s.ops[j].mask, s.ops[j].oper, s.ops[j].mode] = false := h7
            simp [opOk, h7]
        · obtain ⟨j1, j2⟩ := hj
          have : j = s.ops.length := by omega
          subst this
          rw [List.take_length] at j2
          simp [encOk, hd, k2, j2]
    · exact fal (by simp [encHd]; omega)
    · exact fal (by simp [encHd, h4])
    · have h3 : fitL 0 4294967295 [s.tw, s.th] = false := h3
      exact fal (by simp [encHd, h3])
    · have h2 : fitL (-2147483648) 2147483647 [s.c.a, s.c.b, s.c.c, s.c.d] = false := h2
      exact fal (by simp [encHd, h2])
    · have h1 : fitL 0 255 [s.bits] = false := h1
      exact fal (by simp [encHd, h1])

end Go.Proofs.Ytkfgmaecbclgfaa

/-
  Encodable, by the reference.
-/
namespace Go.Proofs.Ytkfgmaecbclgfaa
open Go.RowKit
set_option linter.unusedVariables false
set_option linter.unusedSimpArgs false
attribute [local irreducible] Ans AnsO AnsG AnsN AnsI

set_option maxRecDepth 4000
theorem formed_w {m : Im} (h : m.formed = true) : 1 ≤ m.w ∧ m.w ≤ 16777216 := by
  have h1 : fitsP m.w m.h = true := by unfold Im.formed at h; exact (Bool.and_eq_true_iff.1 h).1
  simp only [fitsP, Bool.and_eq_true, decide_eq_true_eq] at h1
  have : m.w * 1 ≤ m.w * m.h := Int.mul_le_mul_of_nonneg_left (by omega) (by omega)
  omega
theorem sizeIms_drop {l : List Im} {k : Nat} (h : l.all Im.formed = true) : sizeIms (l.take k) ≤ sizeIms l := by
  have h1 := sizeIms_app (l.take k) (l.drop k)
  rw [List.take_append_drop] at h1
  have h2 : (l.drop k).all Im.formed = true := by
    rw [List.all_eq_true] at h ⊢
    exact fun m hm => h m (List.mem_of_mem_drop hm)
  have := sizeIms_le h2
  omega
end Go.Proofs.Ytkfgmaecbclgfaa

/-
  The bytes of a script, by the program.
-/
namespace Go.Proofs.Ytkfgmaecbclgfaa
open Go.RowKit
set_option linter.unusedVariables false
set_option linter.unusedSimpArgs false
attribute [local irreducible] Ans AnsO AnsG AnsN AnsI

set_option maxRecDepth 4000
def encA (s : Scr) (k : Nat) : List Int := [76, 67] ++ putL 1 [s.bits] ++ putL 4 [s.c.a, s.c.b, s.c.c, s.c.d, s.tw, s.th, (s.ord.length : Int)] ++ putL 4 s.ord ++ putL 1 [(s.ims.length : Int)] ++ (s.ims.take k).flatMap imB_
def encC (s : Scr) (j : Nat) : List Int := encA s s.ims.length ++ putL 2 [(s.ops.length : Int)] ++ (s.ops.take j).flatMap opB
theorem encC_all (s : Scr) : encC s s.ops.length = encB s := by
  unfold encC encA encB
  rw [List.take_length, List.take_length]
theorem encA_succ {s : Scr} {k : Nat} (h : k < s.ims.length) : encA s (k + 1) = encA s k ++ imB_ s.ims[k] := by
  unfold encA
  rw [List.take_succ_eq_append_getElem h, List.flatMap_append]
  simp only [List.append_assoc, List.flatMap_cons, List.flatMap_nil, List.append_nil]
theorem encC_succ {s : Scr} {j : Nat} (h : j < s.ops.length) : encC s (j + 1) = encC s j ++ opB s.ops[j] := by
  unfold encC
  rw [List.take_succ_eq_append_getElem h, List.flatMap_append]
  simp only [List.append_assoc, List.flatMap_cons, List.flatMap_nil, List.append_nil]
theorem imBs_len : ∀ {l : List Im}, l.all Im.formed = true → ((l.flatMap imB_).length : Int) = sizeIms l
  | [], _ => by simp [sizeIms]
  | m :: l, h => by
    simp only [List.all_cons, Bool.and_eq_true] at h
    have h1 := imB_len h.1
    have h2 := imBs_len h.2
    simp only [List.flatMap_cons, List.length_append, sizeIms]
    omega
theorem opBs_len : ∀ (l : List Oq), (l.flatMap opB).length = l.length * 24
  | [] => by simp
  | o :: l => by
    simp only [List.flatMap_cons, List.length_append, opB_len, List.length_cons, opBs_len l]; omega
structure Enc (s : Scr) : Prop where
  fm : s.ims.all Im.formed = true
  sz : sizeS s s.ims ≤ 67108864
  bits : 0 ≤ s.bits ∧ s.bits ≤ 255
  il : s.ims.length ≤ 64
  ol : s.ops.length ≤ 4096
theorem enc_of {s : Scr} (h : encOk s = true) : Enc s := by
  simp only [encOk, encHd, Bool.and_eq_true, decide_eq_true_eq] at h
  obtain ⟨⟨⟨⟨⟨⟨⟨⟨h1, h2⟩, h3⟩, h4⟩, h5⟩, h6⟩, h7⟩, h8⟩, h9⟩ := h
  simp [fitL] at h1
  exact ⟨h7, h9, h1, h5, h6⟩
theorem encA_len {s : Scr} (h : Enc s) (k : Nat) : ((encA s k).length : Int) = 32 + 4 * (s.ord.length : Int) + sizeIms (s.ims.take k) ∧ (encA s k).length ≤ 67108864 := by
  have h1 : (s.ims.take k).all Im.formed = true := by
    have := h.fm
    rw [List.all_eq_true] at this ⊢
    exact fun m hm => this m (List.mem_of_mem_take hm)
  have h2 := imBs_len h1
  have h3 := sizeIms_drop (k := k) h.fm
  have h4 := h.sz
  have h5 := sizeIms_le h.fm
  unfold sizeS at h4
  unfold encA
  simp only [List.length_append, putL_len, List.length_cons, List.length_nil]
  omega
theorem encC_len {s : Scr} (h : Enc s) (j : Nat) : (encC s j).length ≤ 67108864 := by
  have h1 := (encA_len h s.ims.length).1
  have h4 := h.sz
  have h2 := opBs_len (s.ops.take j)
  have h3 : (s.ops.take j).length ≤ s.ops.length := by rw [List.length_take]; omega
  rw [List.take_length] at h1
  unfold sizeS at h4
  unfold encC
  simp only [List.length_append, putL_len, List.length_cons, List.length_nil, h2]
  omega
def gamEe : Gam where
 pure := fun f xs =>
  if f = 14 then (match xs with | [.agg [.int _ bits, .int _ cx0, .int _ cy0, .int _ cx1, .int _ cy1, .int _ tw, .int _ th, .sl on oxs, .sl mn mxs, .sl pn pxs]] => some (RV.d (DV.bool (encOk (⟨bits, ⟨cx0, cy0, cx1, cy1⟩, tw, th, ints oxs, toIms mxs, toOps pxs⟩ : Scr)))) | _ => none) else
  none
 modes := fun f =>
  if f = 29 then some ([false, true, true], 1, 1) else
  if f = 30 then some ([false, true], 1, 1) else
  if f = 31 then some ([false, true], 1, 1) else
  none
 proc := fun f xs bs =>
  if f = 29 then (match xs, bs with | [AV.one (Cl.ptr 0 0), AV.one (Cl.d (DV.int _ n)), AV.one (Cl.d (DV.sl ln lxs))], [Bx.cells [Cl.ref 1 bn], Bx.row _ _ bxs] => some ⟨AV.tup [], [Bx.cells [Cl.ref 1 (((ints bxs) ++ putL n.toNat (ints lxs)).length)], Bx.row 5 1 (u8s ((ints bxs) ++ putL n.toNat (ints lxs)))], false⟩ | _, _ => none) else
  if f = 30 then (match xs, bs with | [AV.one (Cl.ptr 0 0), AV.agg [Cl.d (DV.int _ w), Cl.d (DV.int _ h), Cl.d (DV.bool so), Cl.d (DV.int _ c0), Cl.d (DV.int _ c1), Cl.d (DV.int _ c2), Cl.d (DV.int _ ca), Cl.d (DV.int _ cf), Cl.d (DV.int _ w0), Cl.d (DV.int _ h0), Cl.d (DV.int _ s0), Cl.d (DV.sl n0 xs0), Cl.d (DV.int _ w1), Cl.d (DV.int _ h1), Cl.d (DV.int _ s1), Cl.d (DV.sl n1 xs1), Cl.d (DV.int _ w2), Cl.d (DV.int _ h2), Cl.d (DV.int _ s2), Cl.d (DV.sl n2 xs2), Cl.d (DV.int _ w3), Cl.d (DV.int _ h3), Cl.d (DV.int _ s3), Cl.d (DV.sl n3 xs3), Cl.d (DV.int _ w4), Cl.d (DV.int _ h4), Cl.d (DV.int _ s4), Cl.d (DV.sl n4 xs4)]], [Bx.cells [Cl.ref 1 bn], Bx.row _ _ bxs] => some ⟨AV.tup [], [Bx.cells [Cl.ref 1 (((ints bxs) ++ imB_ ⟨w, h, so, ⟨c0, c1, c2, ca, cf⟩, ⟨w0, h0, s0, n0, xs0⟩, ⟨w1, h1, s1, n1, xs1⟩, ⟨w2, h2, s2, n2, xs2⟩, ⟨w3, h3, s3, n3, xs3⟩, ⟨w4, h4, s4, n4, xs4⟩⟩).length)], Bx.row 5 1 (u8s ((ints bxs) ++ imB_ ⟨w, h, so, ⟨c0, c1, c2, ca, cf⟩, ⟨w0, h0, s0, n0, xs0⟩, ⟨w1, h1, s1, n1, xs1⟩, ⟨w2, h2, s2, n2, xs2⟩, ⟨w3, h3, s3, n3, xs3⟩, ⟨w4, h4, s4, n4, xs4⟩⟩))], false⟩ | _, _ => none) else
  if f = 31 then (match xs, bs with | [AV.one (Cl.ptr 0 0), AV.agg [Cl.d (DV.int _ okind), Cl.d (DV.int _ oimage), Cl.d (DV.int _ ox), Cl.d (DV.int _ oy), Cl.d (DV.int _ omask), Cl.d (DV.int _ omx), Cl.d (DV.int _ omy), Cl.d (DV.int _ oopac), Cl.d (DV.int _ ooper), Cl.d (DV.int _ omode), Cl.d (DV.bool oiso), Cl.d (DV.bool okno)]], [Bx.cells [Cl.ref 1 bn], Bx.row _ _ bxs] => some ⟨AV.tup [], [Bx.cells [Cl.ref 1 (((ints bxs) ++ opB ⟨okind, oimage, ox, oy, omask, omx, omy, oopac, ooper, omode, oiso, okno⟩).length)], Bx.row 5 1 (u8s ((ints bxs) ++ opB ⟨okind, oimage, ox, oy, omask, omx, omy, oopac, ooper, omode, oiso, okno⟩))], false⟩ | _, _ => none) else
  none
 iter := fun f cs =>
  none

def script_Encode_ann (s : Scr) : Ann := let zz0 := (DV.sl s.ims.length (ims s.ims)); let zz1 := (DV.sl s.ops.length (ops s.ops)); (Ann.seq Ann.leaf (Ann.seq Ann.leaf (Ann.seq Ann.leaf (Ann.seq Ann.leaf (Ann.seq Ann.leaf (Ann.seq Ann.leaf (Ann.seq Ann.leaf (Ann.seq (Ann.seq Ann.leaf (Ann.loop ⟨Nat, fun k => k ≤ s.ims.length, fun k => ⟨[(1, AV.one (Cl.ptr 1 0)), (4, AV.one (Cl.ptr 15 0)), (54, AV.one (Cl.d zz0)), (55, AV.one (Cl.d (DV.int .i64 ((s.ims.length : Nat) : Int)))), (56, AV.one (Cl.d (DV.int .i64 ((k : Nat) : Int))))], [(1, Bx.cells [Cl.d (DV.int .i64 s.bits), Cl.d (DV.int .i64 s.c.a), Cl.d (DV.int .i64 s.c.b), Cl.d (DV.int .i64 s.c.c), Cl.d (DV.int .i64 s.c.d), Cl.d (DV.int .i64 s.tw), Cl.d (DV.int .i64 s.th), Cl.d (DV.sl s.ord.length (is s.ord)), Cl.d zz0, Cl.d zz1]), (15, Bx.cells [Cl.ref 9001 ((encA s k).length)]), (9001, Bx.row 5 1 (u8s (encA s k)))]⟩, fun k => s.ims.length - k⟩ fun k => Ann.leaf)) (Ann.seq Ann.leaf (Ann.seq (Ann.seq Ann.leaf (Ann.loop ⟨Nat, fun j => j ≤ s.ops.length, fun j => ⟨[(4, AV.one (Cl.ptr 15 0)), (71, AV.one (Cl.d zz1)), (72, AV.one (Cl.d (DV.int .i64 ((s.ops.length : Nat) : Int)))), (73, AV.one (Cl.d (DV.int .i64 ((j : Nat) : Int))))], [(15, Bx.cells [Cl.ref 9002 ((encC s j).length)]), (9002, Bx.row 5 1 (u8s (encC s j)))]⟩, fun j => s.ops.length - j⟩ fun j => Ann.leaf)) Ann.leaf))))))))))
theorem script_Encode_vc (s : Scr) : vcg Try.prog gamEe 85 (bodyOf Try.f11) (script_Encode_ann s) kn0 (start [RV.agg [DV.int .i64 s.bits, DV.int .i64 s.c.a, DV.int .i64 s.c.b, DV.int .i64 s.c.c, DV.int .i64 s.c.d, DV.int .i64 s.tw, DV.int .i64 s.th, DV.sl s.ord.length (is s.ord), DV.sl s.ims.length (ims s.ims), DV.sl s.ops.length (ops s.ops)]]) (post Try.prog Try.f11.results.toList (· = RV.tup [RV.d (DV.sl ((encS s).1.length) (u8s (encS s).1)), RV.d (DV.int .i64 ((encS s).2))])) =
  (let zz0 := [DV.int .i64 s.bits, DV.int .i64 s.c.a, DV.int .i64 s.c.b, DV.int .i64 s.c.c, DV.int .i64 s.c.d, DV.int .i64 s.tw, DV.int .i64 s.th, DV.sl s.ord.length (is s.ord), DV.sl s.ims.length (ims s.ims), DV.sl s.ops.length (ops s.ops)]; let zz1 := [RV.d (DV.sl ((encS s).1.length) (u8s (encS s).1)), RV.d (DV.int .i64 ((encS s).2))]; let zz2 := (Cl.d (DV.int .i64 1)); let zz3 := [Bx.cells [Cl.ref 1 (((ints ([DV.int .u8 (76 : Int), DV.int .u8 (67 : Int)])) ++ putL 1 (ints ([DV.int .i64 s.bits]))).length)], Bx.row 5 1 (u8s ((ints ([DV.int .u8 (76 : Int), DV.int .u8 (67 : Int)])) ++ putL 1 (ints ([DV.int .i64 s.bits]))))]; let zz4 := (Cl.d (DV.int .i64 4)); let zz5 := [Bx.cells [Cl.ref 1 (((ints (u8s ((ints ([DV.int .u8 (76 : Int), DV.int .u8 (67 : Int)])) ++ putL 1 (ints ([DV.int .i64 s.bits]))))) ++ putL 4 (ints ([DV.int .i64 s.c.a, DV.int .i64 s.c.b, DV.int .i64 s.c.c, DV.int .i64 s.c.d, DV.int .i64 s.tw, DV.int .i64 s.th, DV.int .i64 ((s.ord.length : Nat) : Int)]))).length)], Bx.row 5 1 (u8s ((ints (u8s ((ints ([DV.int .u8 (76 : Int), DV.int .u8 (67 : Int)])) ++ putL 1 (ints ([DV.int .i64 s.bits]))))) ++ putL 4 (ints ([DV.int .i64 s.c.a, DV.int .i64 s.c.b, DV.int .i64 s.c.c, DV.int .i64 s.c.d, DV.int .i64 s.tw, DV.int .i64 s.th, DV.int .i64 ((s.ord.length : Nat) : Int)]))))]; let zz6 := [Bx.cells [Cl.ref 1 (((ints (u8s ((ints (u8s ((ints ([DV.int .u8 (76 : Int), DV.int .u8 (67 : Int)])) ++ putL 1 (ints ([DV.int .i64 s.bits]))))) ++ putL 4 (ints ([DV.int .i64 s.c.a, DV.int .i64 s.c.b, DV.int .i64 s.c.c, DV.int .i64 s.c.d, DV.int .i64 s.tw, DV.int .i64 s.th, DV.int .i64 ((s.ord.length : Nat) : Int)]))))) ++ putL 4 (ints (is s.ord))).length)], Bx.row 5 1 (u8s ((ints (u8s ((ints (u8s ((ints ([DV.int .u8 (76 : Int), DV.int .u8 (67 : Int)])) ++ putL 1 (ints ([DV.int .i64 s.bits]))))) ++ putL 4 (ints ([DV.int .i64 s.c.a, DV.int .i64 s.c.b, DV.int .i64 s.c.c, DV.int .i64 s.c.d, DV.int .i64 s.tw, DV.int .i64 s.th, DV.int .i64 ((s.ord.length : Nat) : Int)]))))) ++ putL 4 (ints (is s.ord))))]; let zz7 := (DV.sl s.ims.length (ims s.ims) = DV.sl s.ims.length (ims s.ims)); let zz8 := (DV.int .i64 ((s.ims.length : Nat) : Int) = DV.int .i64 ((s.ims.length : Nat) : Int)); let zz9 := (zz0 = zz0); let zz10 := fun (k : Nat) => [Bx.cells [Cl.ref 1 ((encA s k).length)], Bx.row 5 1 (u8s (encA s k))]; let zz11 := (DV.sl s.ops.length (ops s.ops) = DV.sl s.ops.length (ops s.ops)); let zz12 := (DV.int .i64 ((s.ops.length : Nat) : Int) = DV.int .i64 ((s.ops.length : Nat) : Int)); True ∧ True ∧ True ∧ True ∧ (Ans Try.prog 14 [RV.agg zz0] (RV.d (DV.bool (encOk (⟨s.bits, s.c, s.tw, s.th, ints (is s.ord), toIms (ims s.ims), toOps (ops s.ops)⟩ : Scr))))) ∧ True ∧ (((!(encOk (⟨s.bits, s.c, s.tw, s.th, ints (is s.ord), toIms (ims s.ims), toOps (ops s.ops)⟩ : Scr))) = true → True ∧ True ∧ RV.tup [RV.d (DV.sl 0 ([])), RV.d (DV.int .i64 19)] = RV.tup zz1) ∧ ((!(encOk (⟨s.bits, s.c, s.tw, s.th, ints (is s.ord), toIms (ims s.ims), toOps (ops s.ops)⟩ : Scr))) = false → True ∧ (0 < 2) ∧ True ∧ True ∧ True ∧ True ∧ True ∧ True ∧ True ∧ (AnsG Try.prog 29 1 [AV.one (Cl.ptr 0 0), AV.one zz2, AV.one (Cl.d (DV.sl 1 ([DV.int .i64 s.bits])))] [Bx.cells [Cl.ref 1 2], Bx.row 5 1 ([DV.int .u8 (76 : Int), DV.int .u8 (67 : Int)])] ⟨AV.tup [], zz3, false⟩) ∧ True ∧ True ∧ True ∧ True ∧ True ∧ True ∧ True ∧ True ∧ True ∧ True ∧ True ∧ True ∧ True ∧ True ∧ True ∧ True ∧ True ∧ True ∧ True ∧ True ∧ True ∧ (AnsG Try.prog 29 1 [AV.one (Cl.ptr 0 0), AV.one zz4, AV.one (Cl.d (DV.sl 7 ([DV.int .i64 s.c.a, DV.int .i64 s.c.b, DV.int .i64 s.c.c, DV.int .i64 s.c.d, DV.int .i64 s.tw, DV.int .i64 s.th, DV.int .i64 ((s.ord.length : Nat) : Int)])))] zz3 ⟨AV.tup [], zz5, false⟩) ∧ True ∧ True ∧ True ∧ (AnsG Try.prog 29 1 [AV.one (Cl.ptr 0 0), AV.one zz4, AV.one (Cl.d (DV.sl s.ord.length (is s.ord)))] zz5 ⟨AV.tup [], zz6, false⟩) ∧ True ∧ True ∧ True ∧ True ∧ True ∧ (AnsG Try.prog 29 1 [AV.one (Cl.ptr 0 0), AV.one zz2, AV.one (Cl.d (DV.sl 1 ([DV.int .i64 ((s.ims.length : Nat) : Int)])))] zz6 ⟨AV.tup [], [Bx.cells [Cl.ref 1 (((ints (u8s ((ints (u8s ((ints (u8s ((ints ([DV.int .u8 (76 : Int), DV.int .u8 (67 : Int)])) ++ putL 1 (ints ([DV.int .i64 s.bits]))))) ++ putL 4 (ints ([DV.int .i64 s.c.a, DV.int .i64 s.c.b, DV.int .i64 s.c.c, DV.int .i64 s.c.d, DV.int .i64 s.tw, DV.int .i64 s.th, DV.int .i64 ((s.ord.length : Nat) : Int)]))))) ++ putL 4 (ints (is s.ord))))) ++ putL 1 (ints ([DV.int .i64 ((s.ims.length : Nat) : Int)]))).length)], Bx.row 5 1 (u8s ((ints (u8s ((ints (u8s ((ints (u8s ((ints ([DV.int .u8 (76 : Int), DV.int .u8 (67 : Int)])) ++ putL 1 (ints ([DV.int .i64 s.bits]))))) ++ putL 4 (ints ([DV.int .i64 s.c.a, DV.int .i64 s.c.b, DV.int .i64 s.c.c, DV.int .i64 s.c.d, DV.int .i64 s.tw, DV.int .i64 s.th, DV.int .i64 ((s.ord.length : Nat) : Int)]))))) ++ putL 4 (ints (is s.ord))))) ++ putL 1 (ints ([DV.int .i64 ((s.ims.length : Nat) : Int)]))))], false⟩) ∧ True ∧ True ∧ True ∧ True ∧ ((∃ k : Nat, (k ≤ s.ims.length) ∧ (((0 = 0) ∧ (0 = 0) ∧ zz7 ∧ zz8 ∧ (DV.int .i64 0 = DV.int .i64 ((k : Nat) : Int)) ∧ True) ∧ (zz9 ∧ ((((ints (u8s ((ints (u8s ((ints (u8s ((ints ([DV.int .u8 (76 : Int), DV.int .u8 (67 : Int)])) ++ putL 1 (ints ([DV.int .i64 s.bits]))))) ++ putL 4 (ints ([DV.int .i64 s.c.a, DV.int .i64 s.c.b, DV.int .i64 s.c.c, DV.int .i64 s.c.d, DV.int .i64 s.tw, DV.int .i64 s.th, DV.int .i64 ((s.ord.length : Nat) : Int)]))))) ++ putL 4 (ints (is s.ord))))) ++ putL 1 (ints ([DV.int .i64 ((s.ims.length : Nat) : Int)]))).length = (encA s k).length) ∧ True) ∧ (u8s ((ints (u8s ((ints (u8s ((ints (u8s ((ints ([DV.int .u8 (76 : Int), DV.int .u8 (67 : Int)])) ++ putL 1 (ints ([DV.int .i64 s.bits]))))) ++ putL 4 (ints ([DV.int .i64 s.c.a, DV.int .i64 s.c.b, DV.int .i64 s.c.c, DV.int .i64 s.c.d, DV.int .i64 s.tw, DV.int .i64 s.th, DV.int .i64 ((s.ord.length : Nat) : Int)]))))) ++ putL 4 (ints (is s.ord))))) ++ putL 1 (ints ([DV.int .i64 ((s.ims.length : Nat) : Int)]))) = u8s (encA s k)) ∧ True))) ∧ ∀ k : Nat, (k ≤ s.ims.length) → True ∧ (((decide (((k : Nat) : Int) < ((s.ims.length : Nat) : Int))) = true → (0 ≤ ((k : Nat) : Int) ∧ ((k : Nat) : Int) < ((s.ims.length : Nat) : Int) ∧ ((k : Nat) : Int).toNat * 28 < (ims s.ims).length) ∧ ((imQr (ims s.ims) (((k : Nat) : Int).toNat * 28))) ∧ True ∧ True ∧ True ∧ True ∧ (AnsG Try.prog 30 1 [AV.one (Cl.ptr 0 0), imD (imQ (ims s.ims) (((k : Nat) : Int).toNat * 28))] (zz10 k) ⟨AV.tup [], [Bx.cells [Cl.ref 1 (((ints (u8s (encA s k))) ++ imB_ (imQ (ims s.ims) (((k : Nat) : Int).toNat * 28))).length)], Bx.row 5 1 (u8s ((ints (u8s (encA s k))) ++ imB_ (imQ (ims s.ims) (((k : Nat) : Int).toNat * 28))))], false⟩) ∧ True ∧ True ∧ ∃ k' : Nat, (k' ≤ s.ims.length) ∧ (s.ims.length - k' < s.ims.length - k) ∧ (((0 = 0) ∧ (0 = 0) ∧ zz7 ∧ zz8 ∧ (DV.int .i64 (IntKind.wrap .i64 (((k : Nat) : Int) + (1 : Int))) = DV.int .i64 ((k' : Nat) : Int)) ∧ True) ∧ (zz9 ∧ ((((ints (u8s (encA s k))) ++ imB_ (imQ (ims s.ims) (((k : Nat) : Int).toNat * 28))).length = (encA s k').length) ∧ True) ∧ (u8s ((ints (u8s (encA s k))) ++ imB_ (imQ (ims s.ims) (((k : Nat) : Int).toNat * 28))) = u8s (encA s k')) ∧ True))) ∧ ((decide (((k : Nat) : Int) < ((s.ims.length : Nat) : Int))) = false → True ∧ True ∧ True ∧ True ∧ True ∧ (AnsG Try.prog 29 1 [AV.one (Cl.ptr 0 0), AV.one (Cl.d (DV.int .i64 2)), AV.one (Cl.d (DV.sl 1 ([DV.int .i64 ((s.ops.length : Nat) : Int)])))] (zz10 k) ⟨AV.tup [], [Bx.cells [Cl.ref 1 (((ints (u8s (encA s k))) ++ putL 2 (ints ([DV.int .i64 ((s.ops.length : Nat) : Int)]))).length)], Bx.row 5 1 (u8s ((ints (u8s (encA s k))) ++ putL 2 (ints ([DV.int .i64 ((s.ops.length : Nat) : Int)]))))], false⟩) ∧ True ∧ True ∧ True ∧ True ∧ ((∃ j : Nat, (j ≤ s.ops.length) ∧ (((0 = 0) ∧ zz11 ∧ zz12 ∧ (DV.int .i64 0 = DV.int .i64 ((j : Nat) : Int)) ∧ True) ∧ (((((ints (u8s (encA s k))) ++ putL 2 (ints ([DV.int .i64 ((s.ops.length : Nat) : Int)]))).length = (encC s j).length) ∧ True) ∧ (u8s ((ints (u8s (encA s k))) ++ putL 2 (ints ([DV.int .i64 ((s.ops.length : Nat) : Int)]))) = u8s (encC s j)) ∧ True))) ∧ ∀ j : Nat, (j ≤ s.ops.length) → True ∧ (((decide (((j : Nat) : Int) < ((s.ops.length : Nat) : Int))) = true → (0 ≤ ((j : Nat) : Int) ∧ ((j : Nat) : Int) < ((s.ops.length : Nat) : Int) ∧ ((j : Nat) : Int).toNat * 12 < (ops s.ops).length) ∧ ((oqQr (ops s.ops) (((j : Nat) : Int).toNat * 12))) ∧ True ∧ True ∧ True ∧ True ∧ (AnsG Try.prog 31 1 [AV.one (Cl.ptr 0 0), oqD (oqQ (ops s.ops) (((j : Nat) : Int).toNat * 12))] [Bx.cells [Cl.ref 1 ((encC s j).length)], Bx.row 5 1 (u8s (encC s j))] ⟨AV.tup [], [Bx.cells [Cl.ref 1 (((ints (u8s (encC s j))) ++ opB (oqQ (ops s.ops) (((j : Nat) : Int).toNat * 12))).length)], Bx.row 5 1 (u8s ((ints (u8s (encC s j))) ++ opB (oqQ (ops s.ops) (((j : Nat) : Int).toNat * 12))))], false⟩) ∧ True ∧ True ∧ ∃ j' : Nat, (j' ≤ s.ops.length) ∧ (s.ops.length - j' < s.ops.length - j) ∧ (((0 = 0) ∧ zz11 ∧ zz12 ∧ (DV.int .i64 (IntKind.wrap .i64 (((j : Nat) : Int) + (1 : Int))) = DV.int .i64 ((j' : Nat) : Int)) ∧ True) ∧ (((((ints (u8s (encC s j))) ++ opB (oqQ (ops s.ops) (((j : Nat) : Int).toNat * 12))).length = (encC s j').length) ∧ True) ∧ (u8s ((ints (u8s (encC s j))) ++ opB (oqQ (ops s.ops) (((j : Nat) : Int).toNat * 12))) = u8s (encC s j')) ∧ True))) ∧ ((decide (((j : Nat) : Int) < ((s.ops.length : Nat) : Int))) = false → True ∧ True ∧ True ∧ True ∧ True ∧ True ∧ RV.tup [RV.d (DV.sl ((encC s j).length) (u8s (encC s j))), RV.d (DV.int .i64 0)] = RV.tup zz1))))))))) := by kernel_rfl
theorem script_Encode_ans (s : Scr) (hM : ∀ m ∈ s.ims, m.isU) (hos : s.ord.length ≤ 17592186044416) : Ans Try.prog 11 [RV.agg [DV.int .i64 s.bits, DV.int .i64 s.c.a, DV.int .i64 s.c.b, DV.int .i64 s.c.c, DV.int .i64 s.c.d, DV.int .i64 s.tw, DV.int .i64 s.th, DV.sl s.ord.length (is s.ord), DV.sl s.ims.length (ims s.ims), DV.sl s.ops.length (ops s.ops)]] (RV.tup [RV.d (DV.sl ((encS s).1.length) (u8s (encS s).1)), RV.d (DV.int .i64 ((encS s).2))]) :=
  ans_of_vcg (Γ := gamEe) (script_Encode_ann s) mixed_ Try.func11 rfl (Nat.le_of_ble_eq_true rfl) fun hwf => by
    refine Eq.mpr (script_Encode_vc s) ?_
    simp only [true_and, and_true, RV.d.injEq, RV.agg.injEq, RV.tup.injEq, DV.bool.injEq, DV.int.injEq, DV.sl.injEq, List.cons.injEq, forall_const, Bool.not_false, Bool.not_true, Bool.not_eq_true', Bool.not_eq_false', decide_eq_true_eq, decide_eq_false_iff_not, Int.toNat_natCast, imQ, imQr, imC, oqQ, oqQr, oqC, oqD, pxQ, pxQr, pxC, pxD]
    have eo := script_Encodable_ans s hM hos
    have hS : encOk s = false → encS s = ([], 19) := fun h => by unfold encS; rw [h]; rfl
    have hT : encOk s = true → encS s = (encB s, 0) := fun h => by unfold encS; rw [if_pos h]
    clear hwf
    simp only [toIms_ims, toOps_ops, ints_u8s, ints_is, ints_cons, ints_nil]
    have t4 : (4 : Int).toNat = 4 := rfl
    have t1 : (1 : Int).toNat = 1 := rfl
    refine ⟨eo, fun h => ?_, fun h => ?_⟩
    · rw [hS h]; exact ⟨⟨rfl, rfl⟩, rfl⟩
    · have hT := hT h
      have E : Enc s := enc_of h
      have hsz := E.sz
      have hzl := sizeIms_le E.fm
      have hol := E.ol
      have hil := E.il
      have hA := fun k => encA_len E k
      have hC := fun j => encC_len E j
      unfold sizeS at hsz
      have p1 := script_writer_put_ans [76, 67] 1 [s.bits] ⟨by omega, by omega⟩ (by simp only [List.length_cons, List.length_nil]; omega)
      have p2 := script_writer_put_ans ([76, 67] ++ putL 1 [s.bits]) 4 [s.c.a, s.c.b, s.c.c, s.c.d, s.tw, s.th, (s.ord.length : Int)] ⟨by omega, by omega⟩ (by simp only [List.length_append, putL_len, List.length_cons, List.length_nil, t4, t1]; omega)
      have p3 := script_writer_put_ans ([76, 67] ++ putL 1 [s.bits] ++ putL 4 [s.c.a, s.c.b, s.c.c, s.c.d, s.tw, s.th, (s.ord.length : Int)]) 4 s.ord ⟨by omega, by omega⟩ (by simp only [List.length_append, putL_len, List.length_cons, List.length_nil, t4, t1]; omega)
      have p4 := script_writer_put_ans ([76, 67] ++ putL 1 [s.bits] ++ putL 4 [s.c.a, s.c.b, s.c.c, s.c.d, s.tw, s.th, (s.ord.length : Int)] ++ putL 4 s.ord) 1 [(s.ims.length : Int)] ⟨by omega, by omega⟩ (by simp only [List.length_append, putL_len, List.length_cons, List.length_nil, t4, t1]; omega)
      have eA : [76, 67] ++ putL 1 [s.bits] ++ putL 4 [s.c.a, s.c.b, s.c.c, s.c.d, s.tw, s.th, (s.ord.length : Int)] ++ putL 4 s.ord ++ putL 1 [(s.ims.length : Int)] = encA s 0 := by unfold encA; simp only [List.take_zero, List.flatMap_nil, List.append_nil]
      refine ⟨by omega, p1, p2, p3, p4, ⟨0, Nat.zero_le _, rfl, by rw [eA], by rw [eA]⟩, fun k hk => ⟨fun hlt => ?_, fun hge => ?_⟩⟩
      · have hk : k < s.ims.length := by omega
        have q1 := ims_rd hk
        have q2 := ims_at hk
        have w1 : IntKind.wrap .i64 ((k : Int) + 1) = ((k + 1 : Nat) : Int) := by rw [IntWalk.i64_in _ ⟨by omega, by omega⟩]; omega
        have hfm : s.ims[k].formed = true := by have := E.fm; rw [List.all_eq_true] at this; exact this _ (List.getElem_mem hk)
        have pi := script_writer_image_ans (encA s k) s.ims[k] hfm (hM _ (List.getElem_mem hk)) (by have := (hA k).2; omega)
        have eS := encA_succ hk
        simp only [q2, w1]
        refine ⟨⟨by omega, by omega, by rw [ims_length]; omega⟩, q1, pi, k + 1, by omega, by omega, rfl, ?_, ?_⟩
        · rw [eS]
        · rw [eS]
      · have : k = s.ims.length := by omega
        subst this
        have p5 := script_writer_put_ans (encA s s.ims.length) 2 [(s.ops.length : Int)] ⟨by omega, by omega⟩ (by have := (hA s.ims.length).2; simp only [List.length_cons, List.length_nil]; omega)
        have eC : encA s s.ims.length ++ putL 2 [(s.ops.length : Int)] = encC s 0 := by unfold encC; simp only [List.take_zero, List.flatMap_nil, List.append_nil]
        refine ⟨p5, ⟨0, Nat.zero_le _, rfl, by rw [eC], by rw [eC]⟩, fun j hj => ⟨fun hlt => ?_, fun hge => ?_⟩⟩
        · have hj : j < s.ops.length := by omega
          have q1 := ops_rd hj
          have q2 := ops_at hj
          have w1 : IntKind.wrap .i64 ((j : Int) + 1) = ((j + 1 : Nat) : Int) := by rw [IntWalk.i64_in _ ⟨by omega, by omega⟩]; omega
          have po := script_writer_op_ans (encC s j) s.ops[j] (by have := hC j; omega)
          have eS := encC_succ hj
          simp only [q2, w1]
          refine ⟨⟨by omega, by omega, by rw [ops_length]; omega⟩, q1, po, j + 1, by omega, by omega, rfl, ?_, ?_⟩
          · rw [eS]
          · rw [eS]
        · have : j = s.ops.length := by omega
          subst this
          rw [hT, encC_all]
          exact ⟨⟨rfl, rfl⟩, rfl⟩

end Go.Proofs.Ytkfgmaecbclgfaa

/-
  The bytes of a script, by the reference.
-/
namespace Go.Proofs.Ytkfgmaecbclgfaa
open Go.RowKit
set_option linter.unusedVariables false
set_option linter.unusedSimpArgs false
attribute [local irreducible] Ans AnsO AnsG AnsN AnsI

set_option maxRecDepth 4000
end Go.Proofs.Ytkfgmaecbclgfaa

/-
  Decode of no bytes: the reader's panic, and the deferred function that recovers it.
-/
namespace Go.Proofs.Ytkfgmaecbclgfaa
open Go.RowKit
set_option linter.unusedVariables false
set_option linter.unusedSimpArgs false

set_option maxRecDepth 100000 in
theorem decode_catch (g g2 : Nat) (w : World) (hp : w.heap[g]? = some (.cells #[Value.int .i64 0, Value.int .i64 0, Value.int .i64 0, Value.int .i64 0, Value.int .i64 0, Value.int .i64 0, Value.int .i64 0, Value.slice none 0 0, Value.slice none 0 0, Value.slice none 0 0] 32 (0, 0))) (hq : w.heap[g2]? = some (.cells #[.int .i64 0] 46 (0, 0))) :
    CallsD Try.prog 44 #[.pointer (some ⟨g, 0, none⟩), .pointer (some ⟨g2, 0, none⟩)] (.panicking ({ v := .iface 94 (.agg #[]), recovered := false } :: [])) w fun e u' w' =>
      e = .returned (.tuple #[]) ∧ u' = .panicking ({ v := .iface 94 (.agg #[]), recovered := true } :: []) ∧ w' = w.setCell ⟨g2, 0, none⟩ (.int .i64 19) := by
  have hta : ∀ w : World, (Instr.typeAssert (.iface 94 (.agg #[])) 20 94 true).run Try.prog w = .ok (.tuple #[.agg #[], .bool true]) w := fun _ => by kernel_rfl
  have c0 : w.cell? ⟨g, 0, none⟩ = some (Value.int .i64 0) := by simp [World.cell?, hp]
  have f0 : w.frozen? ⟨g, 0, none⟩ = false := by simp [World.frozen?, hp]
  have s0 : w.setCell ⟨g, 0, none⟩ (Value.int .i64 0) = w := (setCell_eq_setRow w g 0 _ _ _ _ hp).trans (setRow_self w g _ _ _ hp)
  have c1 : w.cell? ⟨g, 1, none⟩ = some (Value.int .i64 0) := by simp [World.cell?, hp]
  have f1 : w.frozen? ⟨g, 1, none⟩ = false := by simp [World.frozen?, hp]
  have s1 : w.setCell ⟨g, 1, none⟩ (Value.int .i64 0) = w := (setCell_eq_setRow w g 1 _ _ _ _ hp).trans (setRow_self w g _ _ _ hp)
  have c2 : w.cell? ⟨g, 2, none⟩ = some (Value.int .i64 0) := by simp [World.cell?, hp]
  have f2 : w.frozen? ⟨g, 2, none⟩ = false := by simp [World.frozen?, hp]
  have s2 : w.setCell ⟨g, 2, none⟩ (Value.int .i64 0) = w := (setCell_eq_setRow w g 2 _ _ _ _ hp).trans (setRow_self w g _ _ _ hp)
  have c3 : w.cell? ⟨g, 3, none⟩ = some (Value.int .i64 0) := by simp [World.cell?, hp]
  have f3 : w.frozen? ⟨g, 3, none⟩ = false := by simp [World.frozen?, hp]
  have s3 : w.setCell ⟨g, 3, none⟩ (Value.int .i64 0) = w := (setCell_eq_setRow w g 3 _ _ _ _ hp).trans (setRow_self w g _ _ _ hp)
  have c4 : w.cell? ⟨g, 4, none⟩ = some (Value.int .i64 0) := by simp [World.cell?, hp]
  have f4 : w.frozen? ⟨g, 4, none⟩ = false := by simp [World.frozen?, hp]
  have s4 : w.setCell ⟨g, 4, none⟩ (Value.int .i64 0) = w := (setCell_eq_setRow w g 4 _ _ _ _ hp).trans (setRow_self w g _ _ _ hp)
  have c5 : w.cell? ⟨g, 5, none⟩ = some (Value.int .i64 0) := by simp [World.cell?, hp]
  have f5 : w.frozen? ⟨g, 5, none⟩ = false := by simp [World.frozen?, hp]
  have s5 : w.setCell ⟨g, 5, none⟩ (Value.int .i64 0) = w := (setCell_eq_setRow w g 5 _ _ _ _ hp).trans (setRow_self w g _ _ _ hp)
  have c6 : w.cell? ⟨g, 6, none⟩ = some (Value.int .i64 0) := by simp [World.cell?, hp]
  have f6 : w.frozen? ⟨g, 6, none⟩ = false := by simp [World.frozen?, hp]
  have s6 : w.setCell ⟨g, 6, none⟩ (Value.int .i64 0) = w := (setCell_eq_setRow w g 6 _ _ _ _ hp).trans (setRow_self w g _ _ _ hp)
  have c7 : w.cell? ⟨g, 7, none⟩ = some (Value.slice none 0 0) := by simp [World.cell?, hp]
  have f7 : w.frozen? ⟨g, 7, none⟩ = false := by simp [World.frozen?, hp]
  have s7 : w.setCell ⟨g, 7, none⟩ (Value.slice none 0 0) = w := (setCell_eq_setRow w g 7 _ _ _ _ hp).trans (setRow_self w g _ _ _ hp)
  have c8 : w.cell? ⟨g, 8, none⟩ = some (Value.slice none 0 0) := by simp [World.cell?, hp]
  have f8 : w.frozen? ⟨g, 8, none⟩ = false := by simp [World.frozen?, hp]
  have s8 : w.setCell ⟨g, 8, none⟩ (Value.slice none 0 0) = w := (setCell_eq_setRow w g 8 _ _ _ _ hp).trans (setRow_self w g _ _ _ hp)
  have c9 : w.cell? ⟨g, 9, none⟩ = some (Value.slice none 0 0) := by simp [World.cell?, hp]
  have f9 : w.frozen? ⟨g, 9, none⟩ = false := by simp [World.frozen?, hp]
  have s9 : w.setCell ⟨g, 9, none⟩ (Value.slice none 0 0) = w := (setCell_eq_setRow w g 9 _ _ _ _ hp).trans (setRow_self w g _ _ _ hp)
  have q0 : w.cell? ⟨g2, 0, none⟩ = some (.int .i64 0) := by simp [World.cell?, hq]
  have p0 : w.frozen? ⟨g2, 0, none⟩ = false := by simp [World.frozen?, hq]
  refine callsD_of_wpS Try.func44 rfl fun c₀ cs hu => ?_
  apply wpS_seq
  apply wpS_region
  simp [wpOpsS, go_sem, recoverD, hu, Try.ntmps44, Exit.thenS]
  refine wpS_of_wp ?_
  go_wp2
  simp [bodyPostS, results, Try.results44]
set_option maxRecDepth 100000 in
theorem decode_nil (A : Option Addr) (cap : Nat) (w : World) :
    Calls Try.prog 19 #[.slice A 0 cap] w fun e w' => e = .returned (.tuple #[.agg #[.int .i64 0, .int .i64 0, .int .i64 0, .int .i64 0, .int .i64 0, .int .i64 0, .int .i64 0, .slice none 0 0, .slice none 0 0, .slice none 0 0], .int .i64 19]) ∧ Below w.heap.size w w' := by
  have hmf : ∀ (fn : Fn) (first cap : Array Value) (w : World), (Instr.makeFunc fn first cap).run Try.prog w = .ok (.func fn first cap) w := fun _ _ _ _ => rfl
  go_enter_defers Try.func19, Try.ntmps19
  go_wp2
  go_end0
  go_wp2
  simp only [bodyPost]
  refine ⟨trivial, ?_⟩
  go_wp2
  simp only [bodyPost]
  refine ⟨trivial, ?_⟩
  go_wp2
  simp only [bodyPost]
  refine ⟨trivial, ?_⟩
  go_wp2
  have sz : ∀ (u : World) (o : Obj), (u.alloc o).heap.size = u.heap.size + 1 := fun u o => by simp
  have old : ∀ (u : World) (o : Obj) (k : Nat), k < u.heap.size → (u.alloc o).heap[k]? = u.heap[k]? := fun u o k hk => heap_alloc_old u o hk
  have new : ∀ (u : World) (o : Obj), (u.alloc o).heap[u.heap.size]? = some o := fun u o => heap_alloc_new u o
  obtain ⟨W, hW⟩ : ∃ W, W = ((((w.alloc (.cells #[Value.int .i64 0, Value.int .i64 0, Value.int .i64 0, Value.int .i64 0, Value.int .i64 0, Value.int .i64 0, Value.int .i64 0, Value.slice none 0 0, Value.slice none 0 0, Value.slice none 0 0] 32)).alloc (.cells #[.int .i64 0] 46)).alloc (.cells #[.slice A 0 cap] 97)).alloc (.cells #[Value.int .i64 0, Value.int .i64 0, Value.int .i64 0, Value.int .i64 0, Value.int .i64 0, Value.int .i64 0, Value.int .i64 0, Value.slice none 0 0, Value.slice none 0 0, Value.slice none 0 0] 32)) := ⟨_, rfl⟩
  have h1 : W.heap[w.heap.size]? = some (.cells #[Value.int .i64 0, Value.int .i64 0, Value.int .i64 0, Value.int .i64 0, Value.int .i64 0, Value.int .i64 0, Value.int .i64 0, Value.slice none 0 0, Value.slice none 0 0, Value.slice none 0 0] 32) := by
    rw [hW, old _ _ _ (by simp only [sz]; omega), old _ _ _ (by simp only [sz]; omega), old _ _ _ (by simp only [sz]; omega), new]
  have h2 : W.heap[w.heap.size + 1]? = some (.cells #[.int .i64 0] 46) := by
    rw [hW, old _ _ _ (by simp only [sz]; omega), old _ _ _ (by simp only [sz]; omega), ← sz w (.cells #[Value.int .i64 0, Value.int .i64 0, Value.int .i64 0, Value.int .i64 0, Value.int .i64 0, Value.int .i64 0, Value.int .i64 0, Value.slice none 0 0, Value.slice none 0 0, Value.slice none 0 0] 32), new]
  have hs : W.heap.size = w.heap.size + 4 := by rw [hW]; simp only [sz]
  have hb : ∀ k, k < w.heap.size → W.heap[k]? = w.heap[k]? := fun k hk => by
    rw [hW, old _ _ _ (by simp only [sz]; omega), old _ _ _ (by simp only [sz]; omega), old _ _ _ (by simp only [sz]; omega), old _ _ _ hk]
  have ho : W.os = w.os ∧ W.tape = w.tape ∧ W.output = w.output := by rw [hW]; exact ⟨rfl, rfl, rfl⟩
  rw [← hW]
  clear hW
  refine leaves_cons (f := 44) (args := #[.pointer (some ⟨w.heap.size, 0, none⟩), .pointer (some ⟨w.heap.size + 1, 0, none⟩)]) (by simp) (by simp [go_sem]) ?_
  refine (decode_catch w.heap.size (w.heap.size + 1) W h1 h2).mono ?_
  rintro e u' w'' ⟨rfl, rfl, rfl⟩
  obtain ⟨W', hW'⟩ : ∃ W', W' = W.setCell ⟨w.heap.size + 1, 0, none⟩ (.int .i64 19) := ⟨_, rfl⟩
  have e1 := setCell_eq_setRow W (w.heap.size + 1) 0 _ _ _ (.int .i64 19) h2
  rw [← hW'] at e1
  have k1 : W'.heap[w.heap.size]? = some (.cells #[Value.int .i64 0, Value.int .i64 0, Value.int .i64 0, Value.int .i64 0, Value.int .i64 0, Value.int .i64 0, Value.int .i64 0, Value.slice none 0 0, Value.slice none 0 0, Value.slice none 0 0] 32) := by rw [e1, setRow_other W _ _ _ (by omega)]; exact h1
  have k2 : W'.heap[w.heap.size + 1]? = some (.cells #[.int .i64 19] 46) := by rw [e1]; exact setRow_heap W _ _ _ _ _ h2
  have k3 : Below w.heap.size w W' := by
    rw [e1]
    exact ⟨ho.1, ho.2.1, ho.2.2, by show w.heap.size ≤ (W.setRow _ _).heap.size; simp [World.setRow]; omega, fun k hk => by rw [setRow_other W _ _ _ (by omega)]; exact hb k hk⟩
  have c0 : W'.cell? ⟨w.heap.size, 0, none⟩ = some (Value.int .i64 0) := by simp [World.cell?, k1]
  have c1 : W'.cell? ⟨w.heap.size, 1, none⟩ = some (Value.int .i64 0) := by simp [World.cell?, k1]
  have c2 : W'.cell? ⟨w.heap.size, 2, none⟩ = some (Value.int .i64 0) := by simp [World.cell?, k1]
  have c3 : W'.cell? ⟨w.heap.size, 3, none⟩ = some (Value.int .i64 0) := by simp [World.cell?, k1]
  have c4 : W'.cell? ⟨w.heap.size, 4, none⟩ = some (Value.int .i64 0) := by simp [World.cell?, k1]
  have c5 : W'.cell? ⟨w.heap.size, 5, none⟩ = some (Value.int .i64 0) := by simp [World.cell?, k1]
  have c6 : W'.cell? ⟨w.heap.size, 6, none⟩ = some (Value.int .i64 0) := by simp [World.cell?, k1]
  have c7 : W'.cell? ⟨w.heap.size, 7, none⟩ = some (Value.slice none 0 0) := by simp [World.cell?, k1]
  have c8 : W'.cell? ⟨w.heap.size, 8, none⟩ = some (Value.slice none 0 0) := by simp [World.cell?, k1]
  have c9 : W'.cell? ⟨w.heap.size, 9, none⟩ = some (Value.slice none 0 0) := by simp [World.cell?, k1]
  have c10 : W'.cell? ⟨w.heap.size + 1, 0, none⟩ = some (.int .i64 19) := by simp [World.cell?, k2]
  rw [← hW']
  clear hW' e1 k1 k2 h1 h2 hs hb ho
  simp [Leaves, settle, results, Try.results19, go_sem, c0, c1, c2, c3, c4, c5, c6, c7, c8, c9, c10, k3]
def zeroScr : List DV := [.int .i64 0, .int .i64 0, .int .i64 0, .int .i64 0, .int .i64 0, .int .i64 0, .int .i64 0, .sl 0 [], .sl 0 [], .sl 0 []]
theorem script_Decode_nil_ans : Ans Try.prog 19 [RV.d (.sl 0 [])] (RV.tup [RV.agg zeroScr, RV.d (.int .i64 19)]) := by
  intro w S vs _ hr
  obtain ⟨l⟩ := vs
  match l, hr with
  | [v], hr =>
    simp only [RepRs, RepR, RepD, and_true] at hr
    obtain ⟨A, cap, rfl, _⟩ := hr
    refine (decode_nil A cap w).mono ?_
    rintro e w' ⟨rfl, hb⟩
    refine ⟨_, rfl, ?_, hb⟩
    simp only [RepR, RepRs]
    have hi : ∀ n : Int, n = 0 ∨ n = 19 → RepD w' (fun g => S g ∨ w.heap.size ≤ g) (.int .i64 n) (.int .i64 n) := fun n hn => by
      simp only [RepD, true_and]
      rw [inK_iff]
      show (-9223372036854775808 : Int) ≤ n ∧ n ≤ 9223372036854775807
      omega
    have hz := hi 0 (.inl rfl)
    have hs : RepD w' (fun g => S g ∨ w.heap.size ≤ g) (.sl 0 []) (.slice none 0 0) := by
      simp only [RepD]
      exact ⟨none, 0, rfl, Nat.le_refl _, Nat.zero_le _, fun h => absurd rfl h⟩
    exact ⟨_, rfl, ⟨_, rfl, hz, hz, hz, hz, hz, hz, hz, hs, hs, hs, trivial⟩, hi 19 (.inr rfl), trivial⟩
end Go.Proofs.Ytkfgmaecbclgfaa

/-
  What the laws on encodings ask.
-/
namespace Go.Proofs.Ytkfgmaecbclgfaa
open Go.RowKit
set_option linter.unusedVariables false
set_option linter.unusedSimpArgs false
attribute [local irreducible] Ans AnsO AnsG AnsN AnsI

set_option maxRecDepth 4000
def tinyS : Scr := ⟨8, ⟨0, 0, 1, 1⟩, 1, 1, [], [], []⟩
theorem tiny_enc : encS tinyS = ([76, 67, 8, 0, 0, 0, 0, 0, 0, 0, 0, 0, 0, 0, 1, 0, 0, 0, 1, 0, 0, 0, 1, 0, 0, 0, 1, 0, 0, 0, 0, 0, 0, 0], 0) := by decide
def gamEg : Gam where
 pure := fun f xs =>
  if f = 11 then (match xs with | [.agg [.int _ bits, .int _ cx0, .int _ cy0, .int _ cx1, .int _ cy1, .int _ tw, .int _ th, .sl on oxs, .sl mn mxs, .sl pn pxs]] => some (RV.tup [RV.d (DV.sl ((encS (⟨bits, ⟨cx0, cy0, cx1, cy1⟩, tw, th, ints oxs, toIms mxs, toOps pxs⟩ : Scr)).1.length) (u8s (encS (⟨bits, ⟨cx0, cy0, cx1, cy1⟩, tw, th, ints oxs, toIms mxs, toOps pxs⟩ : Scr)).1)), RV.d (DV.int .i64 ((encS (⟨bits, ⟨cx0, cy0, cx1, cy1⟩, tw, th, ints oxs, toIms mxs, toOps pxs⟩ : Scr)).2))]) | _ => none) else
  if f = 19 then (match xs with | [.d (.sl n xs)] => some (RV.tup [RV.agg [DV.int .i64 0, DV.int .i64 0, DV.int .i64 0, DV.int .i64 0, DV.int .i64 0, DV.int .i64 0, DV.int .i64 0, DV.sl 0 ([]), DV.sl 0 ([]), DV.sl 0 ([])], RV.d (DV.int .i64 19)]) | _ => none) else
  none
 modes := fun f =>
  none
 proc := fun f xs bs =>
  none
 iter := fun f cs =>
  none

def L18_awake_ann : Ann := Ann.leaf
theorem L18_awake_vc : vcg Try.prog gamEg 32 (bodyOf Try.f13) (L18_awake_ann ) kn0 (start []) (post Try.prog Try.f13.results.toList (· = RV.d (DV.bool true))) =
  (True ∧ True ∧ True ∧ (Ans Try.prog 11 [RV.agg [DV.int .i64 8, DV.int .i64 0, DV.int .i64 0, DV.int .i64 1, DV.int .i64 1, DV.int .i64 1, DV.int .i64 1, DV.sl 0 ([]), DV.sl 0 ([]), DV.sl 0 ([])]] (RV.tup [RV.d (DV.sl ((encS (⟨(8 : Int), ⟨(0 : Int), (0 : Int), (1 : Int), (1 : Int)⟩, (1 : Int), (1 : Int), ints ([]), toIms ([]), toOps ([])⟩ : Scr)).1.length) (u8s (encS (⟨(8 : Int), ⟨(0 : Int), (0 : Int), (1 : Int), (1 : Int)⟩, (1 : Int), (1 : Int), ints ([]), toIms ([]), toOps ([])⟩ : Scr)).1)), RV.d (DV.int .i64 ((encS (⟨(8 : Int), ⟨(0 : Int), (0 : Int), (1 : Int), (1 : Int)⟩, (1 : Int), (1 : Int), ints ([]), toIms ([]), toOps ([])⟩ : Scr)).2))])) ∧ True ∧ True ∧ True ∧ True ∧ True ∧ (Ans Try.prog 19 [RV.d (DV.sl 0 ([]))] (RV.tup [RV.agg [DV.int .i64 0, DV.int .i64 0, DV.int .i64 0, DV.int .i64 0, DV.int .i64 0, DV.int .i64 0, DV.int .i64 0, DV.sl 0 ([]), DV.sl 0 ([]), DV.sl 0 ([])], RV.d (DV.int .i64 19)])) ∧ True ∧ True ∧ True ∧ True ∧ True ∧ True ∧ True ∧ True ∧ True ∧ (((((encS (⟨(8 : Int), ⟨(0 : Int), (0 : Int), (1 : Int), (1 : Int)⟩, (1 : Int), (1 : Int), ints ([]), toIms ([]), toOps ([])⟩ : Scr)).2) == (0 : Int)) = true → True ∧ True ∧ True ∧ True ∧ True ∧ ((((((encS (⟨(8 : Int), ⟨(0 : Int), (0 : Int), (1 : Int), (1 : Int)⟩, (1 : Int), (1 : Int), ints ([]), toIms ([]), toOps ([])⟩ : Scr)).1.length : Nat) : Int) == (34 : Int)) = true → True ∧ (0 ≤ (0 : Int) ∧ (0 : Int) ≤ (2 : Int) ∧ (2 : Int) ≤ (((encS (⟨(8 : Int), ⟨(0 : Int), (0 : Int), (1 : Int), (1 : Int)⟩, (1 : Int), (1 : Int), ints ([]), toIms ([]), toOps ([])⟩ : Scr)).1.length : Nat) : Int)) ∧ (((2 : Int) - (0 : Int)).toNat = (List.take (((2 : Int) - (0 : Int)).toNat * 1) (List.drop ((0 : Int).toNat * 1) (u8s (encS (⟨(8 : Int), ⟨(0 : Int), (0 : Int), (1 : Int), (1 : Int)⟩, (1 : Int), (1 : Int), ints ([]), toIms ([]), toOps ([])⟩ : Scr)).1))).length ∧ allBytes (List.take (((2 : Int) - (0 : Int)).toNat * 1) (List.drop ((0 : Int).toNat * 1) (u8s (encS (⟨(8 : Int), ⟨(0 : Int), (0 : Int), (1 : Int), (1 : Int)⟩, (1 : Int), (1 : Int), ints ([]), toIms ([]), toOps ([])⟩ : Scr)).1)))) ∧ True ∧ True ∧ True ∧ ((((strD (List.take (((2 : Int) - (0 : Int)).toNat * 1) (List.drop ((0 : Int).toNat * 1) (u8s (encS (⟨(8 : Int), ⟨(0 : Int), (0 : Int), (1 : Int), (1 : Int)⟩, (1 : Int), (1 : Int), ints ([]), toIms ([]), toOps ([])⟩ : Scr)).1)))).toList == (⟨#[76, 67]⟩ : ByteArray).toList) = true → True ∧ True ∧ True ∧ True ∧ RV.d (DV.bool (19 == (19 : Int))) = RV.d (DV.bool true)) ∧ (((strD (List.take (((2 : Int) - (0 : Int)).toNat * 1) (List.drop ((0 : Int).toNat * 1) (u8s (encS (⟨(8 : Int), ⟨(0 : Int), (0 : Int), (1 : Int), (1 : Int)⟩, (1 : Int), (1 : Int), ints ([]), toIms ([]), toOps ([])⟩ : Scr)).1)))).toList == (⟨#[76, 67]⟩ : ByteArray).toList) = (!true) → True ∧ True ∧ RV.d (DV.bool false) = RV.d (DV.bool true)))) ∧ (((((encS (⟨(8 : Int), ⟨(0 : Int), (0 : Int), (1 : Int), (1 : Int)⟩, (1 : Int), (1 : Int), ints ([]), toIms ([]), toOps ([])⟩ : Scr)).1.length : Nat) : Int) == (34 : Int)) = (!true) → True ∧ True ∧ True ∧ True ∧ RV.d (DV.bool false) = RV.d (DV.bool true)))) ∧ ((((encS (⟨(8 : Int), ⟨(0 : Int), (0 : Int), (1 : Int), (1 : Int)⟩, (1 : Int), (1 : Int), ints ([]), toIms ([]), toOps ([])⟩ : Scr)).2) == (0 : Int)) = (!true) → True ∧ True ∧ True ∧ True ∧ True ∧ True ∧ RV.d (DV.bool false) = RV.d (DV.bool true)))) := by kernel_rfl
theorem L18_awake_ans : Ans Try.prog 13 [] (RV.d (DV.bool true)) :=
  ans_of_vcg (Γ := gamEg) (L18_awake_ann ) mixed_ Try.func13 rfl (Nat.le_of_ble_eq_true rfl) fun hwf => by
    refine Eq.mpr (L18_awake_vc ) ?_
    simp only [true_and, and_true, RV.d.injEq, RV.agg.injEq, RV.tup.injEq, DV.bool.injEq, DV.int.injEq, DV.sl.injEq, List.cons.injEq, forall_const, Bool.not_false, Bool.not_true, Bool.not_eq_true', Bool.not_eq_false', decide_eq_true_eq, decide_eq_false_iff_not, Int.toNat_natCast, imQ, imQr, imC, oqQ, oqQr, oqC, oqD, pxQ, pxQr, pxC, pxD]
    have e := script_Encode_ans tinyS (fun m hm => by cases hm) (Nat.zero_le _)
    have d := script_Decode_nil_ans
    have hS : (⟨8, ⟨0, 0, 1, 1⟩, 1, 1, ints [], toIms [], toOps []⟩ : Scr) = tinyS := rfl
    simp only [hS]
    refine ⟨e, d, ?_⟩
    simp only [tiny_enc]
    have t2 : List.take ((2 - 0 : Int).toNat * 1) (List.drop (Int.toNat 0 * 1) (u8s [76, 67, 8, 0, 0, 0, 0, 0, 0, 0, 0, 0, 0, 0, 1, 0, 0, 0, 1, 0, 0, 0, 1, 0, 0, 0, 1, 0, 0, 0, 0, 0, 0, 0])) = [DV.int .u8 76, DV.int .u8 67] := rfl
    have sD : strD [DV.int .u8 76, DV.int .u8 67] = ⟨#[76, 67]⟩ := rfl
    simp only [t2, sD]
    exact ⟨fun _ => ⟨fun _ => ⟨⟨by decide, by decide, by decide⟩, ⟨rfl, ⟨_, rfl⟩, ⟨_, rfl⟩, trivial⟩, fun _ => rfl, fun h => absurd h (by rw [beq_self_eq_true]; decide)⟩, fun h => absurd h (by decide)⟩, fun h => absurd h (by decide)⟩

end Go.Proofs.Ytkfgmaecbclgfaa

/-
  Frames in plain words: when there is an error.
-/
namespace Go.Proofs.Ytkfgmaecbclgfaa
open Go.RowKit
set_option linter.unusedVariables false
set_option linter.unusedSimpArgs false

end Go.Proofs.Ytkfgmaecbclgfaa

/-
  Made images are valid, in plain words.
-/
namespace Go.Proofs.Ytkfgmaecbclgfaa
open Go.RowKit
set_option linter.unusedVariables false
set_option linter.unusedSimpArgs false

theorem Im.list_so {m : Im} (hs : m.so = true) (n : Nat) : m.list n = List.replicate n m.c := by
  unfold Im.list
  refine List.ext_getElem (by simp) fun i h1 h2 => ?_
  simp [Im.nth, Im.px, hs]
theorem Im.count_pos {m : Im} (hf : m.formed = true) : 0 < m.w.toNat * m.h.toNat := by
  obtain ⟨f1, f2, f3, f4, f5⟩ := fits_le (Im.formed_of hf).1
  exact Nat.mul_pos (by omega) (by omega)
theorem Im.pixels_so {m : Im} (hf : m.formed = true) (hs : m.so = true) : m.pixels = List.replicate (m.w.toNat * m.h.toNat) m.c := by
  rw [Im.pixels_of hf, Im.list_so hs]
theorem Im.valid_iff {m : Im} (hf : m.formed = true) (most : Int) : m.valid most = 0 ↔ ∀ p ∈ m.pixels, p.ok most = true := by
  obtain ⟨h1, h2⟩ := Im.formed_of hf
  unfold Im.valid
  rw [if_neg (by simp [h1]), if_neg (by simp [h2])]
  cases hs : m.so with
  | true =>
    rw [if_pos rfl, Im.pixels_so hf hs]
    have := Im.count_pos hf
    constructor
    · intro h p hp
      obtain ⟨_, rfl⟩ := List.mem_replicate.1 hp
      split at h
      · assumption
      · cases h
    · intro h
      rw [if_pos (h m.c (List.mem_replicate.2 ⟨by omega, rfl⟩))]
  | false =>
    rw [if_neg (by simp), Im.pixels_of hf]
    unfold Im.okTo Im.count Im.list
    constructor
    · intro h p hp
      split at h
      · rename_i ha
        obtain ⟨k, hk, rfl⟩ := List.mem_map.1 hp
        exact List.all_eq_true.1 ha k hk
      · cases h
    · intro h
      rw [if_pos (List.all_eq_true.2 fun k hk => h _ (List.mem_map.2 ⟨k, hk, rfl⟩))]
theorem gSample_in (n : Int) {most : Int} (h0 : 0 ≤ most) (h1 : most ≤ 65535) : 0 ≤ gSample n most ∧ gSample n most ≤ most := by
  unfold gSample
  rw [IntWalk.i64_in most ⟨by omega, by omega⟩]
  have a2 := @modS_in (IntKind.wrap .i64 (Int.tdiv n 8)) 2 (by omega) (by omega)
  have a4 := @modS_in (IntKind.wrap .i64 (Int.tdiv n 8)) 4 (by omega) (by omega)
  split
  · omega
  · split
    · omega
    · split
      · rw [IntWalk.i64_in (most + _) ⟨by omega, by omega⟩]
        have e : Int.tdiv (most + modS (IntKind.wrap .i64 (Int.tdiv n 8)) 2) 2 = (most + modS (IntKind.wrap .i64 (Int.tdiv n 8)) 2) / 2 := Int.tdiv_eq_ediv_of_nonneg (by omega)
        rw [e, IntWalk.i64_in _ ⟨by omega, by omega⟩, IntWalk.u16_in _ ⟨by omega, by omega⟩]
        omega
      · split
        · rw [IntWalk.u16_in _ ⟨by omega, by omega⟩]
          omega
        · rw [IntWalk.i64_in (most + 1) ⟨by omega, by omega⟩]
          have a := @modS_in (IntKind.wrap .i64 (Int.tdiv n 8)) (most + 1) (by omega) (by omega)
          rw [IntWalk.u16_in _ ⟨by omega, by omega⟩]
          omega
theorem gPixel_ok (n0 n1 n2 n3 n4 : Int) {most : Int} (h0 : 0 ≤ most) (h1 : most ≤ 65535) : (gPixel n0 n1 n2 n3 n4 most).ok most = true ∧ 0 ≤ (gPixel n0 n1 n2 n3 n4 most).a ∧ 0 ≤ (gPixel n0 n1 n2 n3 n4 most).b ∧ 0 ≤ (gPixel n0 n1 n2 n3 n4 most).c ∧ 0 ≤ (gPixel n0 n1 n2 n3 n4 most).al := by
  have hf := gSample_in n4 h0 h1
  have key : ∀ a f : Int, 0 ≤ a → a ≤ f → f ≤ most → Px.ok ⟨gSample n0 a, gSample n1 a, gSample n2 a, a, f⟩ most = true ∧ 0 ≤ gSample n0 a ∧ 0 ≤ gSample n1 a ∧ 0 ≤ gSample n2 a ∧ 0 ≤ a := fun a f k0 k1 k2 => by
    have q0 := gSample_in n0 k0 (by omega)
    have q1 := gSample_in n1 k0 (by omega)
    have q2 := gSample_in n2 k0 (by omega)
    simp [Px.ok]
    omega
  unfold gPixel
  simp only
  split
  · have ha := gSample_in (IntKind.wrap .i64 (Int.tdiv n3 3)) hf.1 (by omega)
    exact key _ _ ha.1 ha.2 hf.2
  · exact key _ _ hf.1 (Int.le_refl _) hf.2
/-- a pixel that is valid, with no negative sample -/
def Px.fine (p : Px) (most : Int) : Prop := p.ok most = true ∧ 0 ≤ p.a ∧ 0 ≤ p.b ∧ 0 ≤ p.c ∧ 0 ≤ p.al
theorem gPx_fine (mood : Int) (L : Nat) (xs : List DV) {most : Int} (h0 : 0 ≤ most) (h1 : most ≤ 65535) (k : Nat) : (gPx mood L xs most k).fine most := by
  have hz : Px.zero.fine most := ⟨by simp [Px.ok, Px.zero, h0], by decide, by decide, by decide, by decide⟩
  have hp : ∀ k, (gPx1 L xs most k).fine most := fun k => gPixel_ok _ _ _ _ _ h0 h1
  unfold gPx
  split
  · exact hz
  · split
    · obtain ⟨a, b⟩ := hp k
      refine ⟨?_, b.1, b.2.1, b.2.2.1, h0⟩
      simp [Px.ok] at a ⊢
      omega
    · split
      · exact hp 0
      · exact hp k
theorem gImage_fine (pw ph so mood : Int) (L : Nat) (xs : List DV) (x0 y0 x1 y1 : Int) {most : Int} (h0 : 0 ≤ most) (h1 : most ≤ 65535) (hc : 1 ≤ x1 - x0 ∧ x1 - x0 ≤ 100 ∧ 1 ≤ y1 - y0 ∧ y1 - y0 ≤ 100) : ∀ p ∈ (gImage pw ph so mood L xs x0 y0 x1 y1 most).pixels, p.fine most := by
  have hf := (gImage_facts pw ph so mood L xs x0 y0 x1 y1 most hc).1
  intro p hp
  rw [gImage_is pw ph so mood L xs x0 y0 x1 y1 most _ _ rfl rfl] at hf hp
  split at hf
  · rename_i hs
    rw [if_pos hs, Im.pixels_so hf rfl] at hp
    obtain ⟨_, rfl⟩ := List.mem_replicate.1 hp
    exact gPx_fine _ _ _ h0 h1 _
  · rename_i hs
    rw [if_neg hs] at hp
    cases hk : ofOk (gSide pw 5 x0 x1 pw) (gSide ph 4 y0 y1 pw) (gPixels mood L xs most (IntKind.wrap .i64 (gSide pw 5 x0 x1 pw * gSide ph 4 y0 y1 pw)).toNat).length with
    | true =>
      rw [(imOf_pixels hk).2] at hp
      unfold gPixels at hp
      obtain ⟨k, _, rfl⟩ := List.mem_map.1 hp
      exact gPx_fine _ _ _ h0 h1 _
    | false =>
      rw [imOf_no hk] at hf
      exact absurd hf (by decide)
end Go.Proofs.Ytkfgmaecbclgfaa

/-
  What the generator makes is a valid script: in plain words.
-/
namespace Go.Proofs.Ytkfgmaecbclgfaa
open Go.RowKit
set_option linter.unusedVariables false
set_option linter.unusedSimpArgs false

/-! ### lists of operations -/
/-! ### an operation of the generator -/
theorem Scn.ops_len (s : Scn) : s.ops.length ≤ 18 := by
  have := s.run_len (min s.rn 9)
  unfold Scn.ops
  simp; omega
theorem Scn.ord_len (s : Scn) : s.ord.length ≤ 64 := by
  have ht := s.tiles_in
  unfold Scn.ord permL
  split
  · simp
  · have := (stp_len (ints s.oxs) (n := s.tiles.toNat) (by omega) s.tiles.toNat (Nat.le_refl _)).2
    omega
/-! ### its images -/
theorem Scn.fine (s : Scn) : ∀ m ∈ s.ims, m.formed = true ∧ (m.w ≤ 100 ∧ m.h ≤ 100) ∧ m.valid s.most = 0 ∧ ∀ more, (gStrided m more).valid s.most = 0 := by
  have CF := s.c_facts
  have hq : 1 ≤ s.c.c - s.c.a ∧ s.c.c - s.c.a ≤ 100 ∧ 1 ≤ s.c.d - s.c.b ∧ s.c.d - s.c.b ≤ 100 := by have := s.facts; omega
  have hm : 0 ≤ s.most ∧ s.most ≤ 65535 := by rcases s.most_in with h | h <;> rw [h] <;> omega
  have key : ∀ m : Im, m.formed = true → m.w ≤ 100 ∧ m.h ≤ 100 → (∀ p ∈ m.pixels, p.fine s.most) → m.formed = true ∧ (m.w ≤ 100 ∧ m.h ≤ 100) ∧ m.valid s.most = 0 ∧ ∀ more, (gStrided m more).valid s.most = 0 := fun m h1 h2 h3 => by
    refine ⟨h1, h2, (Im.valid_iff h1 _).2 fun p hp => (h3 p hp).1, fun more => (Im.valid_iff (gStrided_formed h1 h2 more) _).2 fun p hp => ?_⟩
    rw [gStrided_pixels h1 h2 more] at hp
    exact (h3 p hp).1
  intro m hmem
  unfold Scn.ims at hmem
  split at hmem
  · rw [List.mem_singleton] at hmem
    subst hmem
    have F := s.facts
    have hf : fitsP s.gw s.gh = true := by
      have := Int.mul_le_mul F.2.2.1.2 F.2.2.2.1.2 (by omega) (by omega)
      simp [fitsP]; omega
    refine key _ (solidIm_formed _ hf) ⟨by show s.gw ≤ 100; omega, by show s.gh ≤ 100; omega⟩ fun p hp => ?_
    change p ∈ (solidIm s.gw s.gh ⟨s.most, 0, 0, s.most, s.most⟩).pixels at hp
    rw [Im.pixels_of (solidIm_formed _ hf), Im.list, List.mem_map] at hp
    obtain ⟨k, _, rfl⟩ := hp
    have e : (solidIm s.gw s.gh ⟨s.most, 0, 0, s.most, s.most⟩).nth k = ⟨s.most, 0, 0, s.most, s.most⟩ := by simp [Im.nth, Im.px, solidIm]
    change ((solidIm s.gw s.gh ⟨s.most, 0, 0, s.most, s.most⟩).nth k).fine s.most
    rw [e]
    exact ⟨by simp [Px.ok]; omega, by simp only; omega, by simp only; omega, by simp only; omega, by simp only; omega⟩
  · simp only [Scn.pics, List.mem_map] at hmem
    obtain ⟨k, _, rfl⟩ := hmem
    obtain ⟨gf, g1, g2, g3, g4⟩ := gImage_facts (nAt s.pxs (k * 5)) (nAt s.pxs (k * 5 + 1)) (nAt s.pxs (k * 5 + 2)) (nAt s.pxs (k * 5 + 3)) (lAt s.pxs (k * 5 + 4)) (cAt s.pxs (k * 5 + 4)) s.c.a s.c.b s.c.c s.c.d s.most hq
    exact key _ gf ⟨g2, g4⟩ fun p hp => gImage_fine _ _ _ _ _ _ _ _ _ _ hm.1 hm.2 hq p hp
end Go.Proofs.Ytkfgmaecbclgfaa

/-
  What the generator makes can be encoded.
-/
namespace Go.Proofs.Ytkfgmaecbclgfaa
open Go.RowKit
set_option linter.unusedVariables false
set_option linter.unusedSimpArgs false

theorem fitL_iff {lo hi : Int} {l : List Int} : fitL lo hi l = true ↔ ∀ v ∈ l, lo ≤ v ∧ v ≤ hi := by
  unfold fitL
  rw [List.all_eq_true]
  simp
theorem Scn.ord_fit (s : Scn) : ∀ v ∈ s.ord, 0 ≤ v ∧ v ≤ 4294967295 := by
  intro v hv
  have ht := s.tiles_in
  by_cases hl : (ints s.oxs).length = 0
  · have : s.ord = [] := by unfold Scn.ord permL; rw [if_pos (.inl hl)]
    rw [this] at hv; cases hv
  · have := ((permL_perm hl (by omega : s.tiles ≤ 64)).mem_iff).1 hv
    simp only [upto, List.mem_map, List.mem_range] at this
    obtain ⟨i, hi, rfl⟩ := this
    show 0 ≤ (i : Int) ∧ (i : Int) ≤ 4294967295
    omega
theorem Scn.bits_fit (s : Scn) : s.bits = 8 ∨ s.bits = 16 := by
  have := s.bits_of
  by_cases h : gMax s.b > 255
  · exact .inr (this.1 h).symm
  · exact .inl (this.2 h).symm
theorem sizeIms_small : ∀ {l : List Im}, (∀ m ∈ l, m.formed = true ∧ m.w ≤ 100 ∧ m.h ≤ 100) → sizeIms l ≤ 100009 * (l.length : Int)
  | [], _ => by simp [sizeIms]
  | m :: l, h => by
    have h1 := h m (by simp)
    have h2 := sizeIms_small (l := l) fun m hm => h m (by simp [hm])
    have h3 := formed_w h1.1
    have h4 : m.w * m.h ≤ 10000 := by
      have := Int.mul_le_mul_of_nonneg_left h1.2.2 (by omega : 0 ≤ m.w)
      omega
    have h5 : sizeIm m ≤ 100009 := by unfold sizeIm; split <;> omega
    simp only [sizeIms, List.length_cons]
    omega
/-- a scene's script with other images and operations -/
theorem Scn.enc (s : Scn) {ms : List Im} {os : List Oq} (h1 : ms.length ≤ 64) (h2 : ∀ m ∈ ms, m.formed = true ∧ m.w ≤ 100 ∧ m.h ≤ 100) (h3 : os.length ≤ 100) (h4 : os.all opOk = true) : encOk ⟨s.bits, s.c, s.gtw, s.gth, s.ord, ms, os⟩ = true := by
  obtain ⟨f1, f2, f3, f4, f5, f6⟩ := s.facts
  have CF := s.c_facts
  have hb := s.bits_fit
  have ho := s.ord_len
  have hz := sizeIms_small h2
  have g1 : fitL 0 255 [s.bits] = true := fitL_iff.2 fun v hv => by
    simp only [List.mem_cons, List.not_mem_nil, or_false] at hv
    subst hv
    omega
  have g2 : fitL (-2147483648) 2147483647 [s.c.a, s.c.b, s.c.c, s.c.d] = true := fitL_iff.2 fun v hv => by
    simp only [List.mem_cons, List.not_mem_nil, or_false] at hv
    rcases hv with rfl | rfl | rfl | rfl <;> omega
  have g3 : fitL 0 4294967295 [s.gtw, s.gth] = true := fitL_iff.2 fun v hv => by
    simp only [List.mem_cons, List.not_mem_nil, or_false] at hv
    rcases hv with rfl | rfl <;> omega
  have g4 : fitL 0 4294967295 s.ord = true := fitL_iff.2 s.ord_fit
  have g5 : ms.all Im.formed = true := List.all_eq_true.2 fun m hm => (h2 m hm).1
  simp only [encOk, encHd, g1, g2, g3, g4, g5, h4, sizeS, Bool.and_true, Bool.true_and, Bool.and_eq_true, decide_eq_true_eq]
  exact ⟨⟨h1, by omega⟩, decide_eq_true (by omega)⟩
theorem formed_of {m : Im} {most : Int} (h : m.valid most = 0) : m.formed = true := by
  unfold Im.valid at h
  split at h
  · cases h
  split at h
  · cases h
  rename_i a b
  unfold Im.formed
  simp only [Bool.not_eq_false] at a b
  rw [a, b]; rfl
end Go.Proofs.Ytkfgmaecbclgfaa

