/-
  Rectangles of a canvas, out of numbers.
-/
import Derived.Test.YtfeknaojnominaaFnR
import Derived.Test.YtfeknaojnominaaSpV
namespace Go.Proofs.Ytfeknaojnominaa
open Go.RowKit
set_option linter.unusedVariables false
set_option linter.unusedSimpArgs false
attribute [local irreducible] Ans AnsO AnsG AnsN AnsI

set_option maxRecDepth 4000
def gamV : Gam where
 pure := fun f xs =>
  if f = 17 then (match xs with | [.d (.int _ n), .d (.int _ k)] => some (RV.d (DV.int .i64 (modS n k))) | _ => none) else
  none
 modes := fun f =>
  none
 proc := fun f xs bs =>
  none
 iter := fun f cs =>
  none

def G_Part_ann (r : Rc) (n0 : Int) (n1 : Int) (n2 : Int) (n3 : Int) : Ann := Ann.leaf
theorem G_Part_vc (r : Rc) (n0 : Int) (n1 : Int) (n2 : Int) (n3 : Int) : vcg Try.prog gamV 60 (bodyOf Try.f32) (G_Part_ann r n0 n1 n2 n3) kn0 (start [RV.agg [DV.int .i64 r.a, DV.int .i64 r.b, DV.int .i64 r.c, DV.int .i64 r.d], RV.agg [DV.int .i64 n0, DV.int .i64 n1, DV.int .i64 n2, DV.int .i64 n3]]) (post Try.prog Try.f32.results.toList (· = RV.agg [DV.int .i64 ((partRc r n0 n1 n2 n3).a), DV.int .i64 ((partRc r n0 n1 n2 n3).b), DV.int .i64 ((partRc r n0 n1 n2 n3).c), DV.int .i64 ((partRc r n0 n1 n2 n3).d)])) =
  (let zz0 := (IntKind.wrap .i64 (r.c - r.a)); let zz1 := (IntKind.wrap .i64 (r.d - r.b)); let zz2 := (IntKind.wrap .i64 (zz0 - (modS n0 zz0))); let zz3 := (IntKind.wrap .i64 (zz1 - (modS n1 zz1))); let zz4 := (IntKind.wrap .i64 (r.a + (modS n0 zz0))); let zz5 := (IntKind.wrap .i64 (r.b + (modS n1 zz1))); True ∧ True ∧ True ∧ True ∧ True ∧ True ∧ True ∧ True ∧ True ∧ True ∧ True ∧ True ∧ True ∧ True ∧ True ∧ (true = true) ∧ (0 ≤ (0 : Int) ∧ (0 : Int) < ((4 : Nat) : Int)) ∧ True ∧ True ∧ (Ans Try.prog 17 [RV.d (DV.int .i64 n0), RV.d (DV.int .i64 zz0)] (RV.d (DV.int .i64 (modS n0 zz0)))) ∧ (0 ≤ (1 : Int) ∧ (1 : Int) < ((4 : Nat) : Int)) ∧ True ∧ True ∧ (Ans Try.prog 17 [RV.d (DV.int .i64 n1), RV.d (DV.int .i64 zz1)] (RV.d (DV.int .i64 (modS n1 zz1)))) ∧ True ∧ True ∧ (true = true) ∧ True ∧ True ∧ True ∧ True ∧ True ∧ True ∧ True ∧ True ∧ True ∧ True ∧ True ∧ True ∧ True ∧ (0 ≤ (2 : Int) ∧ (2 : Int) < ((4 : Nat) : Int)) ∧ True ∧ True ∧ True ∧ True ∧ (Ans Try.prog 17 [RV.d (DV.int .i64 n2), RV.d (DV.int .i64 zz2)] (RV.d (DV.int .i64 (modS n2 zz2)))) ∧ True ∧ True ∧ True ∧ True ∧ True ∧ True ∧ (0 ≤ (3 : Int) ∧ (3 : Int) < ((4 : Nat) : Int)) ∧ True ∧ True ∧ True ∧ True ∧ (Ans Try.prog 17 [RV.d (DV.int .i64 n3), RV.d (DV.int .i64 zz3)] (RV.d (DV.int .i64 (modS n3 zz3)))) ∧ True ∧ True ∧ True ∧ (true = true) ∧ RV.agg [DV.int .i64 zz4, DV.int .i64 zz5, DV.int .i64 (IntKind.wrap .i64 ((IntKind.wrap .i64 (zz4 + (1 : Int))) + (modS n2 zz2))), DV.int .i64 (IntKind.wrap .i64 ((IntKind.wrap .i64 (zz5 + (1 : Int))) + (modS n3 zz3)))] = RV.agg [DV.int .i64 ((partRc r n0 n1 n2 n3).a), DV.int .i64 ((partRc r n0 n1 n2 n3).b), DV.int .i64 ((partRc r n0 n1 n2 n3).c), DV.int .i64 ((partRc r n0 n1 n2 n3).d)]) := by kernel_rfl
theorem G_Part_ans (r : Rc) (n0 : Int) (n1 : Int) (n2 : Int) (n3 : Int) : Ans Try.prog 32 [RV.agg [DV.int .i64 r.a, DV.int .i64 r.b, DV.int .i64 r.c, DV.int .i64 r.d], RV.agg [DV.int .i64 n0, DV.int .i64 n1, DV.int .i64 n2, DV.int .i64 n3]] (RV.agg [DV.int .i64 ((partRc r n0 n1 n2 n3).a), DV.int .i64 ((partRc r n0 n1 n2 n3).b), DV.int .i64 ((partRc r n0 n1 n2 n3).c), DV.int .i64 ((partRc r n0 n1 n2 n3).d)]) :=
  ans_of_vcg (Γ := gamV) (G_Part_ann r n0 n1 n2 n3) mixed_ Try.func32 rfl (Nat.le_of_ble_eq_true rfl) fun hwf => by
    refine Eq.mpr (G_Part_vc r n0 n1 n2 n3) ?_
    simp only [true_and, and_true, RV.d.injEq, RV.agg.injEq, RV.tup.injEq, DV.bool.injEq, DV.int.injEq, DV.sl.injEq, List.cons.injEq, forall_const, Bool.not_false, Bool.not_true, Bool.not_eq_true', Bool.not_eq_false', decide_eq_true_eq, decide_eq_false_iff_not, Int.toNat_natCast, G_Mod_ans]
    simp [partRc]

def G_Rect_ann (n0 : Int) (n1 : Int) (n2 : Int) (n3 : Int) : Ann := Ann.leaf
theorem G_Rect_vc (n0 : Int) (n1 : Int) (n2 : Int) (n3 : Int) : vcg Try.prog gamV 41 (bodyOf Try.f36) (G_Rect_ann n0 n1 n2 n3) kn0 (start [RV.agg [DV.int .i64 n0, DV.int .i64 n1, DV.int .i64 n2, DV.int .i64 n3]]) (post Try.prog Try.f36.results.toList (· = RV.agg [DV.int .i64 ((genRc n0 n1 n2 n3).a), DV.int .i64 ((genRc n0 n1 n2 n3).b), DV.int .i64 ((genRc n0 n1 n2 n3).c), DV.int .i64 ((genRc n0 n1 n2 n3).d)])) =
  (let zz0 := (0 ≤ (0 : Int) ∧ (0 : Int) < ((4 : Nat) : Int)); let zz1 := (0 ≤ (2 : Int) ∧ (2 : Int) < ((4 : Nat) : Int)); let zz2 := (IntKind.wrap .i64 (Int.tdiv n0 (12 : Int))); let zz3 := (IntKind.wrap .i64 ((modS n0 (12 : Int)) - (6 : Int))); let zz4 := (IntKind.wrap .i64 ((modS n1 (12 : Int)) - (6 : Int))); let zz5 := (IntKind.wrap .i64 ((IntKind.wrap .i64 (zz4 + (modS n3 (8 : Int)))) - (1 : Int))); let zz6 := [DV.int .i64 ((genRc n0 n1 n2 n3).a), DV.int .i64 ((genRc n0 n1 n2 n3).b), DV.int .i64 ((genRc n0 n1 n2 n3).c), DV.int .i64 ((genRc n0 n1 n2 n3).d)]; True ∧ True ∧ zz0 ∧ True ∧ (Ans Try.prog 17 [RV.d (DV.int .i64 n0), RV.d (DV.int .i64 12)] (RV.d (DV.int .i64 (modS n0 (12 : Int))))) ∧ True ∧ (0 ≤ (1 : Int) ∧ (1 : Int) < ((4 : Nat) : Int)) ∧ True ∧ (Ans Try.prog 17 [RV.d (DV.int .i64 n1), RV.d (DV.int .i64 12)] (RV.d (DV.int .i64 (modS n1 (12 : Int))))) ∧ True ∧ True ∧ True ∧ True ∧ (true = true) ∧ True ∧ True ∧ zz1 ∧ True ∧ (Ans Try.prog 17 [RV.d (DV.int .i64 n2), RV.d (DV.int .i64 8)] (RV.d (DV.int .i64 (modS n2 (8 : Int))))) ∧ True ∧ True ∧ True ∧ True ∧ (0 ≤ (3 : Int) ∧ (3 : Int) < ((4 : Nat) : Int)) ∧ True ∧ (Ans Try.prog 17 [RV.d (DV.int .i64 n3), RV.d (DV.int .i64 8)] (RV.d (DV.int .i64 (modS n3 (8 : Int))))) ∧ True ∧ True ∧ True ∧ True ∧ True ∧ True ∧ (true = true) ∧ zz0 ∧ True ∧ ((12 : Int) ≠ 0) ∧ (Ans Try.prog 17 [RV.d (DV.int .i64 zz2), RV.d (DV.int .i64 30)] (RV.d (DV.int .i64 (modS zz2 (30 : Int))))) ∧ True ∧ ((((modS zz2 (30 : Int)) == (29 : Int)) = true → zz1 ∧ True ∧ (Ans Try.prog 17 [RV.d (DV.int .i64 n2), RV.d (DV.int .i64 3)] (RV.d (DV.int .i64 (modS n2 (3 : Int))))) ∧ True ∧ True ∧ True ∧ True ∧ True ∧ True ∧ RV.agg [DV.int .i64 zz3, DV.int .i64 zz4, DV.int .i64 (IntKind.wrap .i64 ((IntKind.wrap .i64 ((1073741824 : Int) + (modS n2 (3 : Int)))) - (1 : Int))), DV.int .i64 zz5] = RV.agg zz6) ∧ (((modS zz2 (30 : Int)) == (29 : Int)) = false → True ∧ True ∧ RV.agg [DV.int .i64 zz3, DV.int .i64 zz4, DV.int .i64 (IntKind.wrap .i64 ((IntKind.wrap .i64 (zz3 + (modS n2 (8 : Int)))) - (1 : Int))), DV.int .i64 zz5] = RV.agg zz6))) := by kernel_rfl
theorem G_Rect_ans (n0 : Int) (n1 : Int) (n2 : Int) (n3 : Int) : Ans Try.prog 36 [RV.agg [DV.int .i64 n0, DV.int .i64 n1, DV.int .i64 n2, DV.int .i64 n3]] (RV.agg [DV.int .i64 ((genRc n0 n1 n2 n3).a), DV.int .i64 ((genRc n0 n1 n2 n3).b), DV.int .i64 ((genRc n0 n1 n2 n3).c), DV.int .i64 ((genRc n0 n1 n2 n3).d)]) :=
  ans_of_vcg (Γ := gamV) (G_Rect_ann n0 n1 n2 n3) mixed_ Try.func36 rfl (Nat.le_of_ble_eq_true rfl) fun hwf => by
    refine Eq.mpr (G_Rect_vc n0 n1 n2 n3) ?_
    simp only [true_and, and_true, RV.d.injEq, RV.agg.injEq, RV.tup.injEq, DV.bool.injEq, DV.int.injEq, DV.sl.injEq, List.cons.injEq, forall_const, Bool.not_false, Bool.not_true, Bool.not_eq_true', Bool.not_eq_false', decide_eq_true_eq, decide_eq_false_iff_not, Int.toNat_natCast, G_Mod_ans, G_Part_ans]
    simp [genRc]; grind

def R01_Full_ann (most : Int) : Ann := Ann.leaf
theorem R01_Full_vc (most : Int) : vcg Try.prog gamV 9 (bodyOf Try.f38) (R01_Full_ann most) kn0 (start [RV.d (DV.int .u16 most)]) (post Try.prog Try.f38.results.toList (· = RV.d (DV.bool (most == 255 || most == 65535)))) =
  (let zz0 := (DV.bool (most == 255 || most == 65535)); True ∧ True ∧ True ∧ True ∧ (((most == (255 : Int)) = false → True ∧ True ∧ True ∧ True ∧ RV.d (DV.bool (most == (65535 : Int))) = RV.d zz0) ∧ ((most == (255 : Int)) = (!false) → True ∧ True ∧ RV.d (DV.bool true) = RV.d zz0))) := by kernel_rfl
theorem R01_Full_ans (most : Int) : Ans Try.prog 38 [RV.d (DV.int .u16 most)] (RV.d (DV.bool (most == 255 || most == 65535))) :=
  ans_of_vcg (Γ := gamV) (R01_Full_ann most) mixed_ Try.func38 rfl (Nat.le_of_ble_eq_true rfl) fun hwf => by
    refine Eq.mpr (R01_Full_vc most) ?_
    simp only [true_and, and_true, RV.d.injEq, RV.agg.injEq, RV.tup.injEq, DV.bool.injEq, DV.int.injEq, DV.sl.injEq, List.cons.injEq, forall_const, Bool.not_false, Bool.not_true, Bool.not_eq_true', Bool.not_eq_false', decide_eq_true_eq, decide_eq_false_iff_not, Int.toNat_natCast, G_Mod_ans, G_Part_ans, G_Rect_ans]
    grind

end Go.Proofs.Ytfeknaojnominaa
