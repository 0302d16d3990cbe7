/-
  Count and Rect of package tile as they reckon; awake.
-/
import Derived.Test.YtoljdijpmnadpaaFnO
import Derived.Test.YtoljdijpmnadpaaFnA
namespace Go.Proofs.Ytoljdijpmnadpaa
open Go.RowKit
set_option linter.unusedVariables false
set_option linter.unusedSimpArgs false
attribute [local irreducible] Ans AnsO AnsG AnsN AnsI

def cntS (r : Rc) (w h : Int) : Int × Int × Bool :=
  if r.empty then (0, 0, false)
  else if w < 1 ∨ IntKind.wrap .i64 (r.c - r.a) < w ∨ h < 1 ∨ IntKind.wrap .i64 (r.d - r.b) < h then (0, 0, false)
  else (IntKind.wrap .i64 (Int.tdiv (IntKind.wrap .i64 (IntKind.wrap .i64 (IntKind.wrap .i64 (r.c - r.a) + w) - 1)) w), IntKind.wrap .i64 (Int.tdiv (IntKind.wrap .i64 (IntKind.wrap .i64 (IntKind.wrap .i64 (r.d - r.b) + h) - 1)) h), true)
def rectS (r : Rc) (w h i : Int) : Rc × Bool :=
  if (cntS r w h).2.2 = false ∨ i < 0 ∨ IntKind.wrap .i64 (Int.tdiv i (cntS r w h).1) ≥ (cntS r w h).2.1 then (Rc.zero, false)
  else
    let x := IntKind.wrap .i64 (r.a + IntKind.wrap .i64 (Int.tmod i (cntS r w h).1 * w))
    let y := IntKind.wrap .i64 (r.b + IntKind.wrap .i64 (IntKind.wrap .i64 (Int.tdiv i (cntS r w h).1) * h))
    (⟨x, y, min (IntKind.wrap .i64 (x + w)) r.c, min (IntKind.wrap .i64 (y + h)) r.d⟩, true)

def gamW : Gam where
 pure := fun f xs =>
  if f = 9 then (match xs with | [.d (.int _ n), .d (.int _ k)] => some (RV.d (DV.int .i64 (modS n k))) | _ => none) else
  if f = 31 then (match xs with | [.d (.sl n xs), .d (.int _ i)] => some (RV.d (DV.int .i64 (atS (ints xs) i))) | _ => none) else
  if f = 25 then (match xs with | [.d (.sl n xs), .d (.sl m ys)] => some (RV.d (DV.bool (decide (ints xs = ints ys)))) | _ => none) else
  if f = 22 then (match xs with | [] => some (RV.tup [RV.tup [RV.d (DV.int .i64 3), RV.d (DV.int .i64 1)]]) | [.d (.sl n xs), .d (.int _ m)] => some (RV.d (DV.sl ((permL (ints xs) m).length) (is (permL (ints xs) m)))) | _ => none) else
  if f = 26 then (match xs with | [.agg [.int _ a, .int _ b, .int _ c, .int _ d]] => some (RV.d (DV.bool (Rc.empty ⟨a, b, c, d⟩))) | _ => none) else
  if f = 10 then (match xs with | [.agg [.int _ a, .int _ b, .int _ c, .int _ d], .d (.int _ w), .d (.int _ h)] => some (RV.tup [RV.d (DV.int .i64 ((cntS ⟨a, b, c, d⟩ w h).1)), RV.d (DV.int .i64 ((cntS ⟨a, b, c, d⟩ w h).2.1)), RV.d (DV.bool ((cntS ⟨a, b, c, d⟩ w h).2.2))]) | _ => none) else
  if f = 12 then (match xs with | [.agg [.int _ a, .int _ b, .int _ c, .int _ d], .d (.int _ w), .d (.int _ h), .d (.int _ i)] => some (RV.tup [RV.agg [DV.int .i64 ((rectS ⟨a, b, c, d⟩ w h i).1.a), DV.int .i64 ((rectS ⟨a, b, c, d⟩ w h i).1.b), DV.int .i64 ((rectS ⟨a, b, c, d⟩ w h i).1.c), DV.int .i64 ((rectS ⟨a, b, c, d⟩ w h i).1.d)], RV.d (DV.bool ((rectS ⟨a, b, c, d⟩ w h i).2))]) | _ => none) else
  if f = 14 then (match xs with | [] => some (RV.d (DV.bool true)) | _ => none) else
  none
 modes := fun f =>
  if f = 23 then some ([true, true], 0, 1) else
  if f = 24 then some ([true, true], 0, 1) else
  none
 proc := fun f xs bs =>
  if f = 23 then (match xs, bs with | [AV.one (Cl.d (DV.sl n xs)), AV.one (Cl.d (DV.int _ m))], [] => some ⟨AV.tup [AV.one (Cl.ref 0 ((orderL (ints xs) m).length)), AV.one (Cl.d (DV.bool (orderOk (ints xs) m)))], [Bx.row 3 1 (is (orderL (ints xs) m))], true⟩ | _, _ => none) else
  if f = 24 then (match xs, bs with | [AV.one (Cl.d (DV.sl n xs)), AV.one (Cl.d (DV.int _ m))], [] => some ⟨AV.tup [AV.one (Cl.ref 0 ((orderL (ints xs) m).length)), AV.one (Cl.d (DV.bool (orderOk (ints xs) m)))], [Bx.row 3 1 (is (orderL (ints xs) m))], true⟩ | _, _ => none) else
  none
 iter := fun f cs =>
  none

def tile_Count_ann (a : Int) (b : Int) (c : Int) (d : Int) (w : Int) (h : Int) : Ann := Ann.leaf
theorem tile_Count_vc (a : Int) (b : Int) (c : Int) (d : Int) (w : Int) (h : Int) : vcg Try.prog gamW 51 (bodyOf Try.f10) (tile_Count_ann a b c d w h) kn0 (start [RV.agg [DV.int .i64 a, DV.int .i64 b, DV.int .i64 c, DV.int .i64 d], RV.d (DV.int .i64 w), RV.d (DV.int .i64 h)]) (post Try.prog Try.f10.results.toList (· = RV.tup [RV.d (DV.int .i64 ((cntS ⟨a, b, c, d⟩ w h).1)), RV.d (DV.int .i64 ((cntS ⟨a, b, c, d⟩ w h).2.1)), RV.d (DV.bool ((cntS ⟨a, b, c, d⟩ w h).2.2))])) =
  (let zz0 := [RV.d (DV.int .i64 0), RV.d (DV.int .i64 0), RV.d (DV.bool false)]; let zz1 := [RV.d (DV.int .i64 ((cntS ⟨a, b, c, d⟩ w h).1)), RV.d (DV.int .i64 ((cntS ⟨a, b, c, d⟩ w h).2.1)), RV.d (DV.bool ((cntS ⟨a, b, c, d⟩ w h).2.2))]; True ∧ True ∧ True ∧ True ∧ True ∧ (Ans Try.prog 26 [RV.agg [DV.int .i64 a, DV.int .i64 b, DV.int .i64 c, DV.int .i64 d]] (RV.d (DV.bool (Rc.empty ⟨a, b, c, d⟩)))) ∧ (((Rc.empty ⟨a, b, c, d⟩) = true → True ∧ True ∧ True ∧ RV.tup zz0 = RV.tup zz1) ∧ ((Rc.empty ⟨a, b, c, d⟩) = false → True ∧ True ∧ True ∧ True ∧ True ∧ True ∧ True ∧ True ∧ True ∧ True ∧ True ∧ True ∧ (true = true) ∧ True ∧ True ∧ True ∧ (((decide (w < (1 : Int))) = false → True ∧ True ∧ True ∧ True ∧ True ∧ (((decide (w > (IntKind.wrap .i64 (c - a)))) = false → True ∧ True ∧ True ∧ True ∧ (((decide (h < (1 : Int))) = false → True ∧ True ∧ True ∧ True ∧ (((decide (h > (IntKind.wrap .i64 (d - b)))) = true → True ∧ True ∧ True ∧ RV.tup zz0 = RV.tup zz1) ∧ ((decide (h > (IntKind.wrap .i64 (d - b)))) = false → True ∧ True ∧ True ∧ True ∧ True ∧ (w ≠ 0) ∧ True ∧ True ∧ True ∧ True ∧ True ∧ (h ≠ 0) ∧ True ∧ True ∧ True ∧ (true = true) ∧ RV.tup [RV.d (DV.int .i64 (IntKind.wrap .i64 (Int.tdiv (IntKind.wrap .i64 ((IntKind.wrap .i64 ((IntKind.wrap .i64 (c - a)) + w)) - (1 : Int))) w))), RV.d (DV.int .i64 (IntKind.wrap .i64 (Int.tdiv (IntKind.wrap .i64 ((IntKind.wrap .i64 ((IntKind.wrap .i64 (d - b)) + h)) - (1 : Int))) h))), RV.d (DV.bool true)] = RV.tup zz1))) ∧ ((decide (h < (1 : Int))) = (!false) → True ∧ True ∧ True ∧ True ∧ RV.tup zz0 = RV.tup zz1))) ∧ ((decide (w > (IntKind.wrap .i64 (c - a)))) = (!false) → True ∧ True ∧ True ∧ True ∧ True ∧ True ∧ RV.tup zz0 = RV.tup zz1))) ∧ ((decide (w < (1 : Int))) = (!false) → True ∧ True ∧ True ∧ True ∧ True ∧ True ∧ True ∧ True ∧ RV.tup zz0 = RV.tup zz1))))) := by kernel_rfl
theorem tile_Count_ans (a : Int) (b : Int) (c : Int) (d : Int) (w : Int) (h : Int) : Ans Try.prog 10 [RV.agg [DV.int .i64 a, DV.int .i64 b, DV.int .i64 c, DV.int .i64 d], RV.d (DV.int .i64 w), RV.d (DV.int .i64 h)] (RV.tup [RV.d (DV.int .i64 ((cntS ⟨a, b, c, d⟩ w h).1)), RV.d (DV.int .i64 ((cntS ⟨a, b, c, d⟩ w h).2.1)), RV.d (DV.bool ((cntS ⟨a, b, c, d⟩ w h).2.2))]) :=
  ans_of_vcg (Γ := gamW) (tile_Count_ann a b c d w h) mixed_ Try.func10 rfl (Nat.le_of_ble_eq_true rfl) fun hwf => by
    refine Eq.mpr (tile_Count_vc a b c d w h) ?_
    simp only [true_and, and_true, RV.d.injEq, RV.agg.injEq, RV.tup.injEq, DV.bool.injEq, DV.int.injEq, DV.sl.injEq, List.cons.injEq, forall_const, Bool.not_false, Bool.not_true, Bool.not_eq_true', Bool.not_eq_false', decide_eq_true_eq, decide_eq_false_iff_not, Int.toNat_natCast, rect_Empty_ans]
    unfold cntS
    cases he : Rc.empty ⟨a, b, c, d⟩ <;> by_cases h1 : w < 1 <;> by_cases h2 : IntKind.wrap .i64 (c - a) < w <;> by_cases h3 : h < 1 <;> by_cases h4 : IntKind.wrap .i64 (d - b) < h <;> simp [h1, h2, h3, h4] <;> omega

def tile_Rect_ann (a : Int) (b : Int) (c : Int) (d : Int) (w : Int) (h : Int) (i : Int) : Ann := Ann.leaf
theorem tile_Rect_vc (a : Int) (b : Int) (c : Int) (d : Int) (w : Int) (h : Int) (i : Int) : vcg Try.prog gamW 68 (bodyOf Try.f12) (tile_Rect_ann a b c d w h i) kn0 (start [RV.agg [DV.int .i64 a, DV.int .i64 b, DV.int .i64 c, DV.int .i64 d], RV.d (DV.int .i64 w), RV.d (DV.int .i64 h), RV.d (DV.int .i64 i)]) (post Try.prog Try.f12.results.toList (· = RV.tup [RV.agg [DV.int .i64 ((rectS ⟨a, b, c, d⟩ w h i).1.a), DV.int .i64 ((rectS ⟨a, b, c, d⟩ w h i).1.b), DV.int .i64 ((rectS ⟨a, b, c, d⟩ w h i).1.c), DV.int .i64 ((rectS ⟨a, b, c, d⟩ w h i).1.d)], RV.d (DV.bool ((rectS ⟨a, b, c, d⟩ w h i).2))])) =
  (let zz0 := ((cntS ⟨a, b, c, d⟩ w h).1 ≠ 0); let zz1 := (IntKind.wrap .i64 (Int.tdiv i ((cntS ⟨a, b, c, d⟩ w h).1))); let zz2 := [RV.agg [DV.int .i64 0, DV.int .i64 0, DV.int .i64 0, DV.int .i64 0], RV.d (DV.bool false)]; let zz3 := [RV.agg [DV.int .i64 ((rectS ⟨a, b, c, d⟩ w h i).1.a), DV.int .i64 ((rectS ⟨a, b, c, d⟩ w h i).1.b), DV.int .i64 ((rectS ⟨a, b, c, d⟩ w h i).1.c), DV.int .i64 ((rectS ⟨a, b, c, d⟩ w h i).1.d)], RV.d (DV.bool ((rectS ⟨a, b, c, d⟩ w h i).2))]; let zz4 := (IntKind.wrap .i64 (a + (IntKind.wrap .i64 ((Int.tmod i ((cntS ⟨a, b, c, d⟩ w h).1)) * w)))); let zz5 := (IntKind.wrap .i64 (b + (IntKind.wrap .i64 (zz1 * h)))); True ∧ True ∧ True ∧ True ∧ True ∧ True ∧ (Ans Try.prog 10 [RV.agg [DV.int .i64 a, DV.int .i64 b, DV.int .i64 c, DV.int .i64 d], RV.d (DV.int .i64 w), RV.d (DV.int .i64 h)] (RV.tup [RV.d (DV.int .i64 ((cntS ⟨a, b, c, d⟩ w h).1)), RV.d (DV.int .i64 ((cntS ⟨a, b, c, d⟩ w h).2.1)), RV.d (DV.bool ((cntS ⟨a, b, c, d⟩ w h).2.2))])) ∧ True ∧ True ∧ True ∧ True ∧ True ∧ True ∧ True ∧ True ∧ True ∧ True ∧ (((!((cntS ⟨a, b, c, d⟩ w h).2.2)) = false → True ∧ True ∧ True ∧ True ∧ (((decide (i < (0 : Int))) = false → True ∧ True ∧ zz0 ∧ True ∧ True ∧ True ∧ (((decide (zz1 ≥ ((cntS ⟨a, b, c, d⟩ w h).2.1))) = true → True ∧ True ∧ True ∧ RV.tup zz2 = RV.tup zz3) ∧ ((decide (zz1 ≥ ((cntS ⟨a, b, c, d⟩ w h).2.1))) = false → True ∧ True ∧ True ∧ True ∧ zz0 ∧ True ∧ True ∧ True ∧ True ∧ True ∧ True ∧ True ∧ zz0 ∧ True ∧ True ∧ True ∧ True ∧ True ∧ (true = true) ∧ True ∧ True ∧ True ∧ True ∧ True ∧ True ∧ True ∧ True ∧ True ∧ True ∧ True ∧ True ∧ True ∧ True ∧ True ∧ True ∧ True ∧ RV.tup [RV.agg [DV.int .i64 zz4, DV.int .i64 zz5, DV.int .i64 (min (IntKind.wrap .i64 (zz4 + w)) c), DV.int .i64 (min (IntKind.wrap .i64 (zz5 + h)) d)], RV.d (DV.bool true)] = RV.tup zz3))) ∧ ((decide (i < (0 : Int))) = (!false) → True ∧ True ∧ True ∧ True ∧ RV.tup zz2 = RV.tup zz3))) ∧ ((!((cntS ⟨a, b, c, d⟩ w h).2.2)) = (!false) → True ∧ True ∧ True ∧ True ∧ True ∧ True ∧ RV.tup zz2 = RV.tup zz3))) := by kernel_rfl
theorem tile_Rect_ans (a : Int) (b : Int) (c : Int) (d : Int) (w : Int) (h : Int) (i : Int) (hz : (cntS ⟨a, b, c, d⟩ w h).2.2 = true → (cntS ⟨a, b, c, d⟩ w h).1 ≠ 0) : Ans Try.prog 12 [RV.agg [DV.int .i64 a, DV.int .i64 b, DV.int .i64 c, DV.int .i64 d], RV.d (DV.int .i64 w), RV.d (DV.int .i64 h), RV.d (DV.int .i64 i)] (RV.tup [RV.agg [DV.int .i64 ((rectS ⟨a, b, c, d⟩ w h i).1.a), DV.int .i64 ((rectS ⟨a, b, c, d⟩ w h i).1.b), DV.int .i64 ((rectS ⟨a, b, c, d⟩ w h i).1.c), DV.int .i64 ((rectS ⟨a, b, c, d⟩ w h i).1.d)], RV.d (DV.bool ((rectS ⟨a, b, c, d⟩ w h i).2))]) :=
  ans_of_vcg (Γ := gamW) (tile_Rect_ann a b c d w h i) mixed_ Try.func12 rfl (Nat.le_of_ble_eq_true rfl) fun hwf => by
    refine Eq.mpr (tile_Rect_vc a b c d w h i) ?_
    simp only [true_and, and_true, RV.d.injEq, RV.agg.injEq, RV.tup.injEq, DV.bool.injEq, DV.int.injEq, DV.sl.injEq, List.cons.injEq, forall_const, Bool.not_false, Bool.not_true, Bool.not_eq_true', Bool.not_eq_false', decide_eq_true_eq, decide_eq_false_iff_not, Int.toNat_natCast, rect_Empty_ans, tile_Count_ans]
    unfold rectS
    generalize cntS ⟨a, b, c, d⟩ w h = T at *
    obtain ⟨n1, n2, ok⟩ := T
    simp only at hz ⊢
    cases ok <;> by_cases h1 : i < 0 <;> by_cases h2 : IntKind.wrap .i64 (Int.tdiv i n1) ≥ n2 <;> simp [h1, h2, Rc.zero] <;> simp at hz <;> simp [hz] <;> omega

def L17_awake_ann : Ann := Ann.leaf
theorem L17_awake_vc : vcg Try.prog gamW 34 (bodyOf Try.f14) (L17_awake_ann ) kn0 (start []) (post Try.prog Try.f14.results.toList (· = RV.d (DV.bool true))) =
  (let zz0 := [DV.int .i64 0, DV.int .i64 0, DV.int .i64 5, DV.int .i64 4]; True ∧ True ∧ (Ans Try.prog 10 [RV.agg zz0, RV.d (DV.int .i64 2), RV.d (DV.int .i64 3)] (RV.tup [RV.d (DV.int .i64 ((cntS ⟨(0 : Int), (0 : Int), (5 : Int), (4 : Int)⟩ (2 : Int) (3 : Int)).1)), RV.d (DV.int .i64 ((cntS ⟨(0 : Int), (0 : Int), (5 : Int), (4 : Int)⟩ (2 : Int) (3 : Int)).2.1)), RV.d (DV.bool ((cntS ⟨(0 : Int), (0 : Int), (5 : Int), (4 : Int)⟩ (2 : Int) (3 : Int)).2.2))])) ∧ True ∧ True ∧ True ∧ True ∧ True ∧ True ∧ True ∧ True ∧ (Ans Try.prog 12 [RV.agg zz0, RV.d (DV.int .i64 2), RV.d (DV.int .i64 3), RV.d (DV.int .i64 5)] (RV.tup [RV.agg [DV.int .i64 ((rectS ⟨(0 : Int), (0 : Int), (5 : Int), (4 : Int)⟩ (2 : Int) (3 : Int) (5 : Int)).1.a), DV.int .i64 ((rectS ⟨(0 : Int), (0 : Int), (5 : Int), (4 : Int)⟩ (2 : Int) (3 : Int) (5 : Int)).1.b), DV.int .i64 ((rectS ⟨(0 : Int), (0 : Int), (5 : Int), (4 : Int)⟩ (2 : Int) (3 : Int) (5 : Int)).1.c), DV.int .i64 ((rectS ⟨(0 : Int), (0 : Int), (5 : Int), (4 : Int)⟩ (2 : Int) (3 : Int) (5 : Int)).1.d)], RV.d (DV.bool ((rectS ⟨(0 : Int), (0 : Int), (5 : Int), (4 : Int)⟩ (2 : Int) (3 : Int) (5 : Int)).2))])) ∧ True ∧ True ∧ True ∧ True ∧ True ∧ True ∧ True ∧ True ∧ ((((cntS ⟨(0 : Int), (0 : Int), (5 : Int), (4 : Int)⟩ (2 : Int) (3 : Int)).2.2) = true → True ∧ True ∧ True ∧ True ∧ (((((cntS ⟨(0 : Int), (0 : Int), (5 : Int), (4 : Int)⟩ (2 : Int) (3 : Int)).1) == (3 : Int)) = true → True ∧ True ∧ True ∧ True ∧ (((((cntS ⟨(0 : Int), (0 : Int), (5 : Int), (4 : Int)⟩ (2 : Int) (3 : Int)).2.1) == (2 : Int)) = true → True ∧ True ∧ True ∧ ((((rectS ⟨(0 : Int), (0 : Int), (5 : Int), (4 : Int)⟩ (2 : Int) (3 : Int) (5 : Int)).2) = true → True ∧ True ∧ True ∧ True ∧ True ∧ RV.d (DV.bool ((((rectS ⟨(0 : Int), (0 : Int), (5 : Int), (4 : Int)⟩ (2 : Int) (3 : Int) (5 : Int)).1.a) == (4 : Int)) && ((((rectS ⟨(0 : Int), (0 : Int), (5 : Int), (4 : Int)⟩ (2 : Int) (3 : Int) (5 : Int)).1.b) == (3 : Int)) && ((((rectS ⟨(0 : Int), (0 : Int), (5 : Int), (4 : Int)⟩ (2 : Int) (3 : Int) (5 : Int)).1.c) == (5 : Int)) && ((((rectS ⟨(0 : Int), (0 : Int), (5 : Int), (4 : Int)⟩ (2 : Int) (3 : Int) (5 : Int)).1.d) == (4 : Int)) && true))))) = RV.d (DV.bool true)) ∧ (((rectS ⟨(0 : Int), (0 : Int), (5 : Int), (4 : Int)⟩ (2 : Int) (3 : Int) (5 : Int)).2) = (!true) → True ∧ True ∧ RV.d (DV.bool false) = RV.d (DV.bool true)))) ∧ ((((cntS ⟨(0 : Int), (0 : Int), (5 : Int), (4 : Int)⟩ (2 : Int) (3 : Int)).2.1) == (2 : Int)) = (!true) → True ∧ True ∧ True ∧ True ∧ RV.d (DV.bool false) = RV.d (DV.bool true)))) ∧ ((((cntS ⟨(0 : Int), (0 : Int), (5 : Int), (4 : Int)⟩ (2 : Int) (3 : Int)).1) == (3 : Int)) = (!true) → True ∧ True ∧ True ∧ True ∧ True ∧ True ∧ RV.d (DV.bool false) = RV.d (DV.bool true)))) ∧ (((cntS ⟨(0 : Int), (0 : Int), (5 : Int), (4 : Int)⟩ (2 : Int) (3 : Int)).2.2) = (!true) → True ∧ True ∧ True ∧ True ∧ True ∧ True ∧ True ∧ True ∧ RV.d (DV.bool false) = RV.d (DV.bool true)))) := by kernel_rfl
theorem L17_awake_ans : Ans Try.prog 14 [] (RV.d (DV.bool true)) :=
  ans_of_vcg (Γ := gamW) (L17_awake_ann ) mixed_ Try.func14 rfl (Nat.le_of_ble_eq_true rfl) fun hwf => by
    refine Eq.mpr (L17_awake_vc ) ?_
    simp only [true_and, and_true, RV.d.injEq, RV.agg.injEq, RV.tup.injEq, DV.bool.injEq, DV.int.injEq, DV.sl.injEq, List.cons.injEq, forall_const, Bool.not_false, Bool.not_true, Bool.not_eq_true', Bool.not_eq_false', decide_eq_true_eq, decide_eq_false_iff_not, Int.toNat_natCast, rect_Empty_ans, tile_Count_ans]
    have e1 : cntS ⟨0, 0, 5, 4⟩ 2 3 = (3, 2, true) := by decide
    have e2 : rectS ⟨0, 0, 5, 4⟩ 2 3 5 = (⟨4, 3, 5, 4⟩, true) := by rfl
    have h := tile_Rect_ans 0 0 5 4 2 3 5 (by rw [e1]; decide)
    simp only [e1, e2] at h ⊢
    simp [h]

end Go.Proofs.Ytoljdijpmnadpaa
