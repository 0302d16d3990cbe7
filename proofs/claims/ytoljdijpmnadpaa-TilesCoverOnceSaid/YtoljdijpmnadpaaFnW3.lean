/-
  Parts and points of a canvas; the tile of a point.
-/
import Derived.Test.YtoljdijpmnadpaaSpPt
namespace Go.Proofs.Ytoljdijpmnadpaa
open Go.RowKit
set_option linter.unusedVariables false
set_option linter.unusedSimpArgs false
attribute [local irreducible] Ans AnsO AnsG AnsN AnsI

def gamW3 : Gam where
 pure := fun f xs =>
  if f = 10 then (match xs with | [.agg [.int _ a, .int _ b, .int _ c, .int _ d], .d (.int _ w), .d (.int _ h)] => some (RV.tup [RV.d (DV.int .i64 ((cntS ⟨a, b, c, d⟩ w h).1)), RV.d (DV.int .i64 ((cntS ⟨a, b, c, d⟩ w h).2.1)), RV.d (DV.bool ((cntS ⟨a, b, c, d⟩ w h).2.2))]) | _ => none) else
  if f = 28 then (match xs with | [.agg [.int _ a, .int _ b, .int _ c, .int _ d], .d (.int _ x), .d (.int _ y)] => some (RV.d (DV.bool (Rc.has ⟨a, b, c, d⟩ x y))) | _ => none) else
  if f = 9 then (match xs with | [.d (.int _ n), .d (.int _ k)] => some (RV.d (DV.int .i64 (modS n k))) | _ => none) else
  none
 modes := fun f =>
  none
 proc := fun f xs bs =>
  none
 iter := fun f cs =>
  none

def G_Part_ann (r : Rc) (n0 : Int) (n1 : Int) (n2 : Int) (n3 : Int) : Ann := Ann.leaf
theorem G_Part_vc (r : Rc) (n0 : Int) (n1 : Int) (n2 : Int) (n3 : Int) : vcg Try.prog gamW3 60 (bodyOf Try.f17) (G_Part_ann r n0 n1 n2 n3) kn0 (start [RV.agg [DV.int .i64 r.a, DV.int .i64 r.b, DV.int .i64 r.c, DV.int .i64 r.d], RV.agg [DV.int .i64 n0, DV.int .i64 n1, DV.int .i64 n2, DV.int .i64 n3]]) (post Try.prog Try.f17.results.toList (· = RV.agg [DV.int .i64 ((partRc r n0 n1 n2 n3).a), DV.int .i64 ((partRc r n0 n1 n2 n3).b), DV.int .i64 ((partRc r n0 n1 n2 n3).c), DV.int .i64 ((partRc r n0 n1 n2 n3).d)])) =
  (let zz0 := (IntKind.wrap .i64 (r.c - r.a)); let zz1 := (IntKind.wrap .i64 (r.d - r.b)); let zz2 := (IntKind.wrap .i64 (zz0 - (modS n0 zz0))); let zz3 := (IntKind.wrap .i64 (zz1 - (modS n1 zz1))); let zz4 := (IntKind.wrap .i64 (r.a + (modS n0 zz0))); let zz5 := (IntKind.wrap .i64 (r.b + (modS n1 zz1))); True ∧ True ∧ True ∧ True ∧ True ∧ True ∧ True ∧ True ∧ True ∧ True ∧ True ∧ True ∧ True ∧ True ∧ True ∧ (true = true) ∧ (0 ≤ (0 : Int) ∧ (0 : Int) < ((4 : Nat) : Int)) ∧ True ∧ True ∧ (Ans Try.prog 9 [RV.d (DV.int .i64 n0), RV.d (DV.int .i64 zz0)] (RV.d (DV.int .i64 (modS n0 zz0)))) ∧ (0 ≤ (1 : Int) ∧ (1 : Int) < ((4 : Nat) : Int)) ∧ True ∧ True ∧ (Ans Try.prog 9 [RV.d (DV.int .i64 n1), RV.d (DV.int .i64 zz1)] (RV.d (DV.int .i64 (modS n1 zz1)))) ∧ True ∧ True ∧ (true = true) ∧ True ∧ True ∧ True ∧ True ∧ True ∧ True ∧ True ∧ True ∧ True ∧ True ∧ True ∧ True ∧ True ∧ (0 ≤ (2 : Int) ∧ (2 : Int) < ((4 : Nat) : Int)) ∧ True ∧ True ∧ True ∧ True ∧ (Ans Try.prog 9 [RV.d (DV.int .i64 n2), RV.d (DV.int .i64 zz2)] (RV.d (DV.int .i64 (modS n2 zz2)))) ∧ True ∧ True ∧ True ∧ True ∧ True ∧ True ∧ (0 ≤ (3 : Int) ∧ (3 : Int) < ((4 : Nat) : Int)) ∧ True ∧ True ∧ True ∧ True ∧ (Ans Try.prog 9 [RV.d (DV.int .i64 n3), RV.d (DV.int .i64 zz3)] (RV.d (DV.int .i64 (modS n3 zz3)))) ∧ True ∧ True ∧ True ∧ (true = true) ∧ RV.agg [DV.int .i64 zz4, DV.int .i64 zz5, DV.int .i64 (IntKind.wrap .i64 ((IntKind.wrap .i64 (zz4 + (1 : Int))) + (modS n2 zz2))), DV.int .i64 (IntKind.wrap .i64 ((IntKind.wrap .i64 (zz5 + (1 : Int))) + (modS n3 zz3)))] = RV.agg [DV.int .i64 ((partRc r n0 n1 n2 n3).a), DV.int .i64 ((partRc r n0 n1 n2 n3).b), DV.int .i64 ((partRc r n0 n1 n2 n3).c), DV.int .i64 ((partRc r n0 n1 n2 n3).d)]) := by kernel_rfl
theorem G_Part_ans (r : Rc) (n0 : Int) (n1 : Int) (n2 : Int) (n3 : Int) : Ans Try.prog 17 [RV.agg [DV.int .i64 r.a, DV.int .i64 r.b, DV.int .i64 r.c, DV.int .i64 r.d], RV.agg [DV.int .i64 n0, DV.int .i64 n1, DV.int .i64 n2, DV.int .i64 n3]] (RV.agg [DV.int .i64 ((partRc r n0 n1 n2 n3).a), DV.int .i64 ((partRc r n0 n1 n2 n3).b), DV.int .i64 ((partRc r n0 n1 n2 n3).c), DV.int .i64 ((partRc r n0 n1 n2 n3).d)]) :=
  ans_of_vcg (Γ := gamW3) (G_Part_ann r n0 n1 n2 n3) mixed_ Try.func17 rfl (Nat.le_of_ble_eq_true rfl) fun hwf => by
    refine Eq.mpr (G_Part_vc r n0 n1 n2 n3) ?_
    simp only [true_and, and_true, RV.d.injEq, RV.agg.injEq, RV.tup.injEq, DV.bool.injEq, DV.int.injEq, DV.sl.injEq, List.cons.injEq, forall_const, Bool.not_false, Bool.not_true, Bool.not_eq_true', Bool.not_eq_false', decide_eq_true_eq, decide_eq_false_iff_not, Int.toNat_natCast, G_Mod_ans, tile_Count_ans, rect_Contains_ans]
    simp [partRc]

def G_Point_ann (r : Rc) (x : Int) (y : Int) : Ann := Ann.leaf
theorem G_Point_vc (r : Rc) (x : Int) (y : Int) : vcg Try.prog gamW3 28 (bodyOf Try.f18) (G_Point_ann r x y) kn0 (start [RV.agg [DV.int .i64 r.a, DV.int .i64 r.b, DV.int .i64 r.c, DV.int .i64 r.d], RV.d (DV.int .i64 x), RV.d (DV.int .i64 y)]) (post Try.prog Try.f18.results.toList (· = RV.tup [RV.d (DV.int .i64 (ptX r x)), RV.d (DV.int .i64 (ptY r y))])) =
  (let zz0 := (IntKind.wrap .i64 (r.c - r.a)); let zz1 := (IntKind.wrap .i64 (r.d - r.b)); True ∧ True ∧ True ∧ True ∧ True ∧ True ∧ True ∧ True ∧ True ∧ True ∧ True ∧ (Ans Try.prog 9 [RV.d (DV.int .i64 x), RV.d (DV.int .i64 zz0)] (RV.d (DV.int .i64 (modS x zz0)))) ∧ True ∧ True ∧ True ∧ True ∧ True ∧ True ∧ True ∧ True ∧ True ∧ (Ans Try.prog 9 [RV.d (DV.int .i64 y), RV.d (DV.int .i64 zz1)] (RV.d (DV.int .i64 (modS y zz1)))) ∧ True ∧ True ∧ True ∧ (true = true) ∧ RV.tup [RV.d (DV.int .i64 (IntKind.wrap .i64 (r.a + (modS x zz0)))), RV.d (DV.int .i64 (IntKind.wrap .i64 (r.b + (modS y zz1))))] = RV.tup [RV.d (DV.int .i64 (ptX r x)), RV.d (DV.int .i64 (ptY r y))]) := by kernel_rfl
theorem G_Point_ans (r : Rc) (x : Int) (y : Int) : Ans Try.prog 18 [RV.agg [DV.int .i64 r.a, DV.int .i64 r.b, DV.int .i64 r.c, DV.int .i64 r.d], RV.d (DV.int .i64 x), RV.d (DV.int .i64 y)] (RV.tup [RV.d (DV.int .i64 (ptX r x)), RV.d (DV.int .i64 (ptY r y))]) :=
  ans_of_vcg (Γ := gamW3) (G_Point_ann r x y) mixed_ Try.func18 rfl (Nat.le_of_ble_eq_true rfl) fun hwf => by
    refine Eq.mpr (G_Point_vc r x y) ?_
    simp only [true_and, and_true, RV.d.injEq, RV.agg.injEq, RV.tup.injEq, DV.bool.injEq, DV.int.injEq, DV.sl.injEq, List.cons.injEq, forall_const, Bool.not_false, Bool.not_true, Bool.not_eq_true', Bool.not_eq_false', decide_eq_true_eq, decide_eq_false_iff_not, Int.toNat_natCast, G_Mod_ans, tile_Count_ans, rect_Contains_ans, G_Part_ans]
    simp [ptX, ptY]

def tile_Index_ann (r : Rc) (w : Int) (h : Int) (x : Int) (y : Int) : Ann := Ann.leaf
theorem tile_Index_vc (r : Rc) (w : Int) (h : Int) (x : Int) (y : Int) : vcg Try.prog gamW3 47 (bodyOf Try.f15) (tile_Index_ann r w h x y) kn0 (start [RV.agg [DV.int .i64 r.a, DV.int .i64 r.b, DV.int .i64 r.c, DV.int .i64 r.d], RV.d (DV.int .i64 w), RV.d (DV.int .i64 h), RV.d (DV.int .i64 x), RV.d (DV.int .i64 y)]) (post Try.prog Try.f15.results.toList (· = RV.tup [RV.d (DV.int .i64 ((idxS r w h x y).1)), RV.d (DV.bool ((idxS r w h x y).2))])) =
  (let zz0 := [DV.int .i64 r.a, DV.int .i64 r.b, DV.int .i64 r.c, DV.int .i64 r.d]; let zz1 := [RV.d (DV.int .i64 0), RV.d (DV.bool false)]; let zz2 := [RV.d (DV.int .i64 ((idxS r w h x y).1)), RV.d (DV.bool ((idxS r w h x y).2))]; True ∧ True ∧ True ∧ True ∧ True ∧ True ∧ (Ans Try.prog 10 [RV.agg zz0, RV.d (DV.int .i64 w), RV.d (DV.int .i64 h)] (RV.tup [RV.d (DV.int .i64 ((cntS r w h).1)), RV.d (DV.int .i64 ((cntS r w h).2.1)), RV.d (DV.bool ((cntS r w h).2.2))])) ∧ True ∧ True ∧ True ∧ True ∧ True ∧ True ∧ True ∧ True ∧ True ∧ True ∧ (((!((cntS r w h).2.2)) = false → True ∧ True ∧ True ∧ (Ans Try.prog 28 [RV.agg zz0, RV.d (DV.int .i64 x), RV.d (DV.int .i64 y)] (RV.d (DV.bool (Rc.has r x y)))) ∧ True ∧ True ∧ (((!(Rc.has r x y)) = true → True ∧ True ∧ RV.tup zz1 = RV.tup zz2) ∧ ((!(Rc.has r x y)) = false → True ∧ True ∧ True ∧ True ∧ True ∧ (h ≠ 0) ∧ True ∧ True ∧ True ∧ True ∧ True ∧ True ∧ True ∧ (w ≠ 0) ∧ True ∧ True ∧ True ∧ (true = true) ∧ RV.tup [RV.d (DV.int .i64 (IntKind.wrap .i64 ((IntKind.wrap .i64 ((IntKind.wrap .i64 (Int.tdiv (IntKind.wrap .i64 (y - r.b)) h)) * ((cntS r w h).1))) + (IntKind.wrap .i64 (Int.tdiv (IntKind.wrap .i64 (x - r.a)) w))))), RV.d (DV.bool true)] = RV.tup zz2))) ∧ ((!((cntS r w h).2.2)) = (!false) → True ∧ True ∧ True ∧ RV.tup zz1 = RV.tup zz2))) := by kernel_rfl
theorem tile_Index_ans (r : Rc) (w : Int) (h : Int) (x : Int) (y : Int) : Ans Try.prog 15 [RV.agg [DV.int .i64 r.a, DV.int .i64 r.b, DV.int .i64 r.c, DV.int .i64 r.d], RV.d (DV.int .i64 w), RV.d (DV.int .i64 h), RV.d (DV.int .i64 x), RV.d (DV.int .i64 y)] (RV.tup [RV.d (DV.int .i64 ((idxS r w h x y).1)), RV.d (DV.bool ((idxS r w h x y).2))]) :=
  ans_of_vcg (Γ := gamW3) (tile_Index_ann r w h x y) mixed_ Try.func15 rfl (Nat.le_of_ble_eq_true rfl) fun hwf => by
    refine Eq.mpr (tile_Index_vc r w h x y) ?_
    simp only [true_and, and_true, RV.d.injEq, RV.agg.injEq, RV.tup.injEq, DV.bool.injEq, DV.int.injEq, DV.sl.injEq, List.cons.injEq, forall_const, Bool.not_false, Bool.not_true, Bool.not_eq_true', Bool.not_eq_false', decide_eq_true_eq, decide_eq_false_iff_not, Int.toNat_natCast, G_Mod_ans, tile_Count_ans, rect_Contains_ans, G_Part_ans, G_Point_ans]
    have hz := fun hk => @cntS_ne r w h hk
    refine ⟨tile_Count_ans _ _ _ _ _ _, fun h1 => ⟨rect_Contains_ans _ _ _ _ _ _, fun h2 => ?_, fun h2 => ?_⟩, fun h1 => ?_⟩
    · simp [idxS, h1, h2]
    · have := hz h1
      simp [idxS, h1, h2, this.1, this.2]
    · simp [idxS, h1]

end Go.Proofs.Ytoljdijpmnadpaa
