/-
  TilesCoverOnce answers true, whatever it is handed.
-/
import Derived.Test.YtoljdijpmnadpaaFnW3
import Derived.Test.YtoljdijpmnadpaaAbP
namespace Go.Proofs.Ytoljdijpmnadpaa
open Go.RowKit
set_option linter.unusedVariables false
set_option linter.unusedSimpArgs false
attribute [local irreducible] Ans AnsO AnsG AnsN AnsI

def gamCov : Gam where
 pure := fun f xs =>
  if f = 17 then (match xs with | [.agg [.int _ a, .int _ b, .int _ c, .int _ d], .agg [.int _ n0, .int _ n1, .int _ n2, .int _ n3]] => some (RV.agg [DV.int .i64 ((partRc ⟨a, b, c, d⟩ n0 n1 n2 n3).a), DV.int .i64 ((partRc ⟨a, b, c, d⟩ n0 n1 n2 n3).b), DV.int .i64 ((partRc ⟨a, b, c, d⟩ n0 n1 n2 n3).c), DV.int .i64 ((partRc ⟨a, b, c, d⟩ n0 n1 n2 n3).d)]) | _ => none) else
  if f = 9 then (match xs with | [.d (.int _ n), .d (.int _ k)] => some (RV.d (DV.int .i64 (modS n k))) | _ => none) else
  if f = 9 then (match xs with | [.d (.int _ n), .d (.int _ k)] => some (RV.d (DV.int .i64 (modS n k))) | _ => none) else
  if f = 18 then (match xs with | [.agg [.int _ a, .int _ b, .int _ c, .int _ d], .d (.int _ x), .d (.int _ y)] => some (RV.tup [RV.d (DV.int .i64 (ptX ⟨a, b, c, d⟩ x)), RV.d (DV.int .i64 (ptY ⟨a, b, c, d⟩ y))]) | _ => none) else
  if f = 10 then (match xs with | [.agg [.int _ a, .int _ b, .int _ c, .int _ d], .d (.int _ w), .d (.int _ h)] => some (RV.tup [RV.d (DV.int .i64 ((cntS ⟨a, b, c, d⟩ w h).1)), RV.d (DV.int .i64 ((cntS ⟨a, b, c, d⟩ w h).2.1)), RV.d (DV.bool ((cntS ⟨a, b, c, d⟩ w h).2.2))]) | _ => none) else
  if f = 15 then (match xs with | [.agg [.int _ a, .int _ b, .int _ c, .int _ d], .d (.int _ w), .d (.int _ h), .d (.int _ x), .d (.int _ y)] => some (RV.tup [RV.d (DV.int .i64 ((idxS ⟨a, b, c, d⟩ w h x y).1)), RV.d (DV.bool ((idxS ⟨a, b, c, d⟩ w h x y).2))]) | _ => none) else
  if f = 14 then (match xs with | [] => some (RV.d (DV.bool true)) | _ => none) else
  if f = 12 then (match xs with | [.agg [.int _ a, .int _ b, .int _ c, .int _ d], .d (.int _ w), .d (.int _ h), .d (.int _ i)] => some (RV.tup [RV.agg [DV.int .i64 ((rectS ⟨a, b, c, d⟩ w h i).1.a), DV.int .i64 ((rectS ⟨a, b, c, d⟩ w h i).1.b), DV.int .i64 ((rectS ⟨a, b, c, d⟩ w h i).1.c), DV.int .i64 ((rectS ⟨a, b, c, d⟩ w h i).1.d)], RV.d (DV.bool ((rectS ⟨a, b, c, d⟩ w h i).2))]) | _ => none) else
  if f = 19 then (match xs with | [.agg [.int _ a, .int _ b, .int _ c, .int _ d], .agg [.int _ a', .int _ b', .int _ c', .int _ d']] => some (RV.d (DV.bool (Rc.covers ⟨a, b, c, d⟩ ⟨a', b', c', d'⟩))) | _ => none) else
  if f = 20 then (match xs with | [.agg [.int _ a, .int _ b, .int _ c, .int _ d], .d (.int _ x), .d (.int _ y)] => some (RV.d (DV.bool (Rc.has ⟨a, b, c, d⟩ x y))) | _ => none) else
  if f = 21 then (match xs with | [.agg [.int _ a, .int _ b, .int _ c, .int _ d]] => some (RV.d (DV.int .i64 (Rc.area ⟨a, b, c, d⟩))) | _ => none) else
  if f = 21 then (match xs with | [.agg [.int _ a, .int _ b, .int _ c, .int _ d]] => some (RV.d (DV.int .i64 (Rc.area ⟨a, b, c, d⟩))) | _ => none) else
  none
 modes := fun f =>
  none
 proc := fun f xs bs =>
  none
 iter := fun f cs =>
  none

def L17_TilesCoverOnce_ann (n0 : Int) (n1 : Int) (n2 : Int) (n3 : Int) (w : Int) (h : Int) (x : Int) (y : Int) : Ann := let zz0 := (IntKind.wrap .i64 (1 + modS w (IntKind.wrap .i64 ((partRc ⟨(-6 : Int), (-6 : Int), 6, 6⟩ n0 n1 n2 n3).c - (partRc ⟨(-6 : Int), (-6 : Int), 6, 6⟩ n0 n1 n2 n3).a)))); let zz1 := (IntKind.wrap .i64 (1 + modS h (IntKind.wrap .i64 ((partRc ⟨(-6 : Int), (-6 : Int), 6, 6⟩ n0 n1 n2 n3).d - (partRc ⟨(-6 : Int), (-6 : Int), 6, 6⟩ n0 n1 n2 n3).b)))); let zz2 := (IntKind.wrap .i64 ((1 : Int) + (modS w (IntKind.wrap .i64 (((partRc ⟨(-6 : Int), (-6 : Int), (6 : Int), (6 : Int)⟩ n0 n1 n2 n3).c) - ((partRc ⟨(-6 : Int), (-6 : Int), (6 : Int), (6 : Int)⟩ n0 n1 n2 n3).a)))))); let zz3 := (IntKind.wrap .i64 ((1 : Int) + (modS h (IntKind.wrap .i64 (((partRc ⟨(-6 : Int), (-6 : Int), (6 : Int), (6 : Int)⟩ n0 n1 n2 n3).d) - ((partRc ⟨(-6 : Int), (-6 : Int), (6 : Int), (6 : Int)⟩ n0 n1 n2 n3).b)))))); (Ann.seq Ann.leaf (Ann.seq Ann.leaf (Ann.seq Ann.leaf (Ann.seq Ann.leaf (Ann.seq Ann.leaf (Ann.seq Ann.leaf (Ann.seq Ann.leaf (Ann.seq Ann.leaf (Ann.seq (Ann.seq Ann.leaf (Ann.loop ⟨Nat × Int, fun z => ((z.1 : Nat) : Int) ≤ (cntS (partRc ⟨(-6 : Int), (-6 : Int), 6, 6⟩ n0 n1 n2 n3) zz0 zz1).1 * (cntS (partRc ⟨(-6 : Int), (-6 : Int), 6, 6⟩ n0 n1 n2 n3) zz0 zz1).2.1 ∧ z.2 = sumTo (fun i => (rectS (partRc ⟨(-6 : Int), (-6 : Int), 6, 6⟩ n0 n1 n2 n3) zz0 zz1 ((i : Nat) : Int)).1.area) z.1, fun z => ⟨[(11, AV.one (Cl.ptr 11 0)), (12, AV.one (Cl.d (DV.int .i64 zz2))), (13, AV.one (Cl.d (DV.int .i64 zz3))), (14, AV.one (Cl.d (DV.int .i64 (ptX (partRc ⟨(-6 : Int), (-6 : Int), (6 : Int), (6 : Int)⟩ n0 n1 n2 n3) x)))), (15, AV.one (Cl.d (DV.int .i64 (ptY (partRc ⟨(-6 : Int), (-6 : Int), (6 : Int), (6 : Int)⟩ n0 n1 n2 n3) y)))), (16, AV.one (Cl.d (DV.int .i64 ((cntS (partRc ⟨(-6 : Int), (-6 : Int), (6 : Int), (6 : Int)⟩ n0 n1 n2 n3) zz2 zz3).1)))), (17, AV.one (Cl.d (DV.int .i64 ((cntS (partRc ⟨(-6 : Int), (-6 : Int), (6 : Int), (6 : Int)⟩ n0 n1 n2 n3) zz2 zz3).2.1)))), (19, AV.one (Cl.d (DV.int .i64 ((idxS (partRc ⟨(-6 : Int), (-6 : Int), (6 : Int), (6 : Int)⟩ n0 n1 n2 n3) zz2 zz3 (ptX (partRc ⟨(-6 : Int), (-6 : Int), (6 : Int), (6 : Int)⟩ n0 n1 n2 n3) x) (ptY (partRc ⟨(-6 : Int), (-6 : Int), (6 : Int), (6 : Int)⟩ n0 n1 n2 n3) y)).1)))), (21, AV.one (Cl.d (DV.int .i64 z.2))), (22, AV.one (Cl.d (DV.int .i64 ((z.1 : Nat) : Int))))], [(11, Bx.cells [Cl.d (DV.int .i64 ((partRc ⟨(-6 : Int), (-6 : Int), (6 : Int), (6 : Int)⟩ n0 n1 n2 n3).a)), Cl.d (DV.int .i64 ((partRc ⟨(-6 : Int), (-6 : Int), (6 : Int), (6 : Int)⟩ n0 n1 n2 n3).b)), Cl.d (DV.int .i64 ((partRc ⟨(-6 : Int), (-6 : Int), (6 : Int), (6 : Int)⟩ n0 n1 n2 n3).c)), Cl.d (DV.int .i64 ((partRc ⟨(-6 : Int), (-6 : Int), (6 : Int), (6 : Int)⟩ n0 n1 n2 n3).d))])]⟩, fun z => ((cntS (partRc ⟨(-6 : Int), (-6 : Int), 6, 6⟩ n0 n1 n2 n3) zz0 zz1).1 * (cntS (partRc ⟨(-6 : Int), (-6 : Int), 6, 6⟩ n0 n1 n2 n3) zz0 zz1).2.1).toNat - z.1⟩ fun z => Ann.leaf)) Ann.leaf)))))))))
theorem L17_TilesCoverOnce_vc (n0 : Int) (n1 : Int) (n2 : Int) (n3 : Int) (w : Int) (h : Int) (x : Int) (y : Int) : vcg Try.prog gamCov 133 (bodyOf Try.f5) (L17_TilesCoverOnce_ann n0 n1 n2 n3 w h x y) kn0 (start [RV.agg [DV.int .i64 n0, DV.int .i64 n1, DV.int .i64 n2, DV.int .i64 n3], RV.d (DV.int .i64 w), RV.d (DV.int .i64 h), RV.d (DV.int .i64 x), RV.d (DV.int .i64 y)]) (post Try.prog Try.f5.results.toList (· = RV.d (DV.bool true))) =
  (let zz0 := [DV.int .i64 ((partRc ⟨(-6 : Int), (-6 : Int), (6 : Int), (6 : Int)⟩ n0 n1 n2 n3).a), DV.int .i64 ((partRc ⟨(-6 : Int), (-6 : Int), (6 : Int), (6 : Int)⟩ n0 n1 n2 n3).b), DV.int .i64 ((partRc ⟨(-6 : Int), (-6 : Int), (6 : Int), (6 : Int)⟩ n0 n1 n2 n3).c), DV.int .i64 ((partRc ⟨(-6 : Int), (-6 : Int), (6 : Int), (6 : Int)⟩ n0 n1 n2 n3).d)]; let zz1 := (IntKind.wrap .i64 (((partRc ⟨(-6 : Int), (-6 : Int), (6 : Int), (6 : Int)⟩ n0 n1 n2 n3).c) - ((partRc ⟨(-6 : Int), (-6 : Int), (6 : Int), (6 : Int)⟩ n0 n1 n2 n3).a))); let zz2 := (IntKind.wrap .i64 (((partRc ⟨(-6 : Int), (-6 : Int), (6 : Int), (6 : Int)⟩ n0 n1 n2 n3).d) - ((partRc ⟨(-6 : Int), (-6 : Int), (6 : Int), (6 : Int)⟩ n0 n1 n2 n3).b))); let zz3 := (DV.int .i64 (ptX (partRc ⟨(-6 : Int), (-6 : Int), (6 : Int), (6 : Int)⟩ n0 n1 n2 n3) x)); let zz4 := (DV.int .i64 (ptY (partRc ⟨(-6 : Int), (-6 : Int), (6 : Int), (6 : Int)⟩ n0 n1 n2 n3) y)); let zz5 := (IntKind.wrap .i64 ((1 : Int) + (modS w zz1))); let zz6 := (DV.int .i64 zz5); let zz7 := (IntKind.wrap .i64 ((1 : Int) + (modS h zz2))); let zz8 := (DV.int .i64 zz7); let zz9 := (IntKind.wrap .i64 (((cntS (partRc ⟨(-6 : Int), (-6 : Int), (6 : Int), (6 : Int)⟩ n0 n1 n2 n3) zz5 zz7).1) * ((cntS (partRc ⟨(-6 : Int), (-6 : Int), (6 : Int), (6 : Int)⟩ n0 n1 n2 n3) zz5 zz7).2.1))); let zz10 := (IntKind.wrap .i64 (1 + modS w (IntKind.wrap .i64 ((partRc ⟨(-6 : Int), (-6 : Int), 6, 6⟩ n0 n1 n2 n3).c - (partRc ⟨(-6 : Int), (-6 : Int), 6, 6⟩ n0 n1 n2 n3).a)))); let zz11 := (IntKind.wrap .i64 (1 + modS h (IntKind.wrap .i64 ((partRc ⟨(-6 : Int), (-6 : Int), 6, 6⟩ n0 n1 n2 n3).d - (partRc ⟨(-6 : Int), (-6 : Int), 6, 6⟩ n0 n1 n2 n3).b)))); let zz12 := (DV.int .i64 zz5 = DV.int .i64 zz5); let zz13 := (DV.int .i64 zz7 = DV.int .i64 zz7); let zz14 := (DV.int .i64 (ptX (partRc ⟨(-6 : Int), (-6 : Int), (6 : Int), (6 : Int)⟩ n0 n1 n2 n3) x) = DV.int .i64 (ptX (partRc ⟨(-6 : Int), (-6 : Int), (6 : Int), (6 : Int)⟩ n0 n1 n2 n3) x)); let zz15 := (DV.int .i64 (ptY (partRc ⟨(-6 : Int), (-6 : Int), (6 : Int), (6 : Int)⟩ n0 n1 n2 n3) y) = DV.int .i64 (ptY (partRc ⟨(-6 : Int), (-6 : Int), (6 : Int), (6 : Int)⟩ n0 n1 n2 n3) y)); let zz16 := (DV.int .i64 ((cntS (partRc ⟨(-6 : Int), (-6 : Int), (6 : Int), (6 : Int)⟩ n0 n1 n2 n3) zz5 zz7).1) = DV.int .i64 ((cntS (partRc ⟨(-6 : Int), (-6 : Int), (6 : Int), (6 : Int)⟩ n0 n1 n2 n3) zz5 zz7).1)); let zz17 := (DV.int .i64 ((cntS (partRc ⟨(-6 : Int), (-6 : Int), (6 : Int), (6 : Int)⟩ n0 n1 n2 n3) zz5 zz7).2.1) = DV.int .i64 ((cntS (partRc ⟨(-6 : Int), (-6 : Int), (6 : Int), (6 : Int)⟩ n0 n1 n2 n3) zz5 zz7).2.1)); let zz18 := (DV.int .i64 ((idxS (partRc ⟨(-6 : Int), (-6 : Int), (6 : Int), (6 : Int)⟩ n0 n1 n2 n3) zz5 zz7 (ptX (partRc ⟨(-6 : Int), (-6 : Int), (6 : Int), (6 : Int)⟩ n0 n1 n2 n3) x) (ptY (partRc ⟨(-6 : Int), (-6 : Int), (6 : Int), (6 : Int)⟩ n0 n1 n2 n3) y)).1) = DV.int .i64 ((idxS (partRc ⟨(-6 : Int), (-6 : Int), (6 : Int), (6 : Int)⟩ n0 n1 n2 n3) zz5 zz7 (ptX (partRc ⟨(-6 : Int), (-6 : Int), (6 : Int), (6 : Int)⟩ n0 n1 n2 n3) x) (ptY (partRc ⟨(-6 : Int), (-6 : Int), (6 : Int), (6 : Int)⟩ n0 n1 n2 n3) y)).1)); let zz19 := ((zz0 = zz0) ∧ True); let zz20 := fun (z : Nat × Int) => [DV.int .i64 ((rectS (partRc ⟨(-6 : Int), (-6 : Int), (6 : Int), (6 : Int)⟩ n0 n1 n2 n3) zz5 zz7 ((z.1 : Nat) : Int)).1.a), DV.int .i64 ((rectS (partRc ⟨(-6 : Int), (-6 : Int), (6 : Int), (6 : Int)⟩ n0 n1 n2 n3) zz5 zz7 ((z.1 : Nat) : Int)).1.b), DV.int .i64 ((rectS (partRc ⟨(-6 : Int), (-6 : Int), (6 : Int), (6 : Int)⟩ n0 n1 n2 n3) zz5 zz7 ((z.1 : Nat) : Int)).1.c), DV.int .i64 ((rectS (partRc ⟨(-6 : Int), (-6 : Int), (6 : Int), (6 : Int)⟩ n0 n1 n2 n3) zz5 zz7 ((z.1 : Nat) : Int)).1.d)]; let zz21 := (Rc.area (partRc ⟨(-6 : Int), (-6 : Int), (6 : Int), (6 : Int)⟩ n0 n1 n2 n3)); True ∧ True ∧ True ∧ True ∧ (Ans Try.prog 17 [RV.agg [DV.int .i64 (-6 : Int), DV.int .i64 (-6 : Int), DV.int .i64 6, DV.int .i64 6], RV.agg [DV.int .i64 n0, DV.int .i64 n1, DV.int .i64 n2, DV.int .i64 n3]] (RV.agg zz0)) ∧ True ∧ True ∧ True ∧ True ∧ True ∧ True ∧ True ∧ True ∧ (Ans Try.prog 9 [RV.d (DV.int .i64 w), RV.d (DV.int .i64 zz1)] (RV.d (DV.int .i64 (modS w zz1)))) ∧ True ∧ True ∧ True ∧ True ∧ True ∧ True ∧ True ∧ (Ans Try.prog 9 [RV.d (DV.int .i64 h), RV.d (DV.int .i64 zz2)] (RV.d (DV.int .i64 (modS h zz2)))) ∧ True ∧ True ∧ True ∧ (true = true) ∧ True ∧ True ∧ True ∧ (Ans Try.prog 18 [RV.agg zz0, RV.d (DV.int .i64 x), RV.d (DV.int .i64 y)] (RV.tup [RV.d zz3, RV.d zz4])) ∧ True ∧ True ∧ True ∧ True ∧ True ∧ True ∧ True ∧ True ∧ (Ans Try.prog 10 [RV.agg zz0, RV.d zz6, RV.d zz8] (RV.tup [RV.d (DV.int .i64 ((cntS (partRc ⟨(-6 : Int), (-6 : Int), (6 : Int), (6 : Int)⟩ n0 n1 n2 n3) zz5 zz7).1)), RV.d (DV.int .i64 ((cntS (partRc ⟨(-6 : Int), (-6 : Int), (6 : Int), (6 : Int)⟩ n0 n1 n2 n3) zz5 zz7).2.1)), RV.d (DV.bool ((cntS (partRc ⟨(-6 : Int), (-6 : Int), (6 : Int), (6 : Int)⟩ n0 n1 n2 n3) zz5 zz7).2.2))])) ∧ True ∧ True ∧ True ∧ True ∧ True ∧ True ∧ True ∧ True ∧ True ∧ True ∧ True ∧ True ∧ (Ans Try.prog 15 [RV.agg zz0, RV.d zz6, RV.d zz8, RV.d zz3, RV.d zz4] (RV.tup [RV.d (DV.int .i64 ((idxS (partRc ⟨(-6 : Int), (-6 : Int), (6 : Int), (6 : Int)⟩ n0 n1 n2 n3) zz5 zz7 (ptX (partRc ⟨(-6 : Int), (-6 : Int), (6 : Int), (6 : Int)⟩ n0 n1 n2 n3) x) (ptY (partRc ⟨(-6 : Int), (-6 : Int), (6 : Int), (6 : Int)⟩ n0 n1 n2 n3) y)).1)), RV.d (DV.bool ((idxS (partRc ⟨(-6 : Int), (-6 : Int), (6 : Int), (6 : Int)⟩ n0 n1 n2 n3) zz5 zz7 (ptX (partRc ⟨(-6 : Int), (-6 : Int), (6 : Int), (6 : Int)⟩ n0 n1 n2 n3) x) (ptY (partRc ⟨(-6 : Int), (-6 : Int), (6 : Int), (6 : Int)⟩ n0 n1 n2 n3) y)).2))])) ∧ True ∧ True ∧ True ∧ True ∧ True ∧ (Ans Try.prog 14 [] (RV.d (DV.bool true))) ∧ True ∧ True ∧ (((!true) = false → True ∧ True ∧ True ∧ True ∧ (((!((cntS (partRc ⟨(-6 : Int), (-6 : Int), (6 : Int), (6 : Int)⟩ n0 n1 n2 n3) zz5 zz7).2.2)) = false → True ∧ True ∧ True ∧ True ∧ (((!((idxS (partRc ⟨(-6 : Int), (-6 : Int), (6 : Int), (6 : Int)⟩ n0 n1 n2 n3) zz5 zz7 (ptX (partRc ⟨(-6 : Int), (-6 : Int), (6 : Int), (6 : Int)⟩ n0 n1 n2 n3) x) (ptY (partRc ⟨(-6 : Int), (-6 : Int), (6 : Int), (6 : Int)⟩ n0 n1 n2 n3) y)).2)) = false → True ∧ True ∧ True ∧ True ∧ (((decide (((cntS (partRc ⟨(-6 : Int), (-6 : Int), (6 : Int), (6 : Int)⟩ n0 n1 n2 n3) zz5 zz7).1) < (1 : Int))) = false → True ∧ True ∧ True ∧ True ∧ (((decide (((cntS (partRc ⟨(-6 : Int), (-6 : Int), (6 : Int), (6 : Int)⟩ n0 n1 n2 n3) zz5 zz7).2.1) < (1 : Int))) = false → True ∧ True ∧ True ∧ True ∧ True ∧ (((decide (zz9 > (144 : Int))) = true → True ∧ RV.d (DV.bool false) = RV.d (DV.bool true)) ∧ ((decide (zz9 > (144 : Int))) = false → True ∧ True ∧ ((∃ z : Nat × Int, (((z.1 : Nat) : Int) ≤ (cntS (partRc ⟨(-6 : Int), (-6 : Int), 6, 6⟩ n0 n1 n2 n3) zz10 zz11).1 * (cntS (partRc ⟨(-6 : Int), (-6 : Int), 6, 6⟩ n0 n1 n2 n3) zz10 zz11).2.1 ∧ z.2 = sumTo (fun i => (rectS (partRc ⟨(-6 : Int), (-6 : Int), 6, 6⟩ n0 n1 n2 n3) zz10 zz11 ((i : Nat) : Int)).1.area) z.1) ∧ (((0 = 0) ∧ zz12 ∧ zz13 ∧ zz14 ∧ zz15 ∧ zz16 ∧ zz17 ∧ zz18 ∧ (DV.int .i64 0 = DV.int .i64 z.2) ∧ (DV.int .i64 0 = DV.int .i64 ((z.1 : Nat) : Int)) ∧ True) ∧ zz19)) ∧ ∀ z : Nat × Int, (((z.1 : Nat) : Int) ≤ (cntS (partRc ⟨(-6 : Int), (-6 : Int), 6, 6⟩ n0 n1 n2 n3) zz10 zz11).1 * (cntS (partRc ⟨(-6 : Int), (-6 : Int), 6, 6⟩ n0 n1 n2 n3) zz10 zz11).2.1 ∧ z.2 = sumTo (fun i => (rectS (partRc ⟨(-6 : Int), (-6 : Int), 6, 6⟩ n0 n1 n2 n3) zz10 zz11 ((i : Nat) : Int)).1.area) z.1) → True ∧ True ∧ True ∧ True ∧ True ∧ (((decide (((z.1 : Nat) : Int) < zz9)) = true → True ∧ True ∧ True ∧ True ∧ (Ans Try.prog 12 [RV.agg zz0, RV.d zz6, RV.d zz8, RV.d (DV.int .i64 ((z.1 : Nat) : Int))] (RV.tup [RV.agg (zz20 z), RV.d (DV.bool ((rectS (partRc ⟨(-6 : Int), (-6 : Int), (6 : Int), (6 : Int)⟩ n0 n1 n2 n3) zz5 zz7 ((z.1 : Nat) : Int)).2))])) ∧ True ∧ True ∧ True ∧ True ∧ True ∧ True ∧ True ∧ True ∧ True ∧ (((!((rectS (partRc ⟨(-6 : Int), (-6 : Int), (6 : Int), (6 : Int)⟩ n0 n1 n2 n3) zz5 zz7 ((z.1 : Nat) : Int)).2)) = false → True ∧ True ∧ (Ans Try.prog 19 [RV.agg zz0, RV.agg (zz20 z)] (RV.d (DV.bool (Rc.covers (partRc ⟨(-6 : Int), (-6 : Int), (6 : Int), (6 : Int)⟩ n0 n1 n2 n3) ((rectS (partRc ⟨(-6 : Int), (-6 : Int), (6 : Int), (6 : Int)⟩ n0 n1 n2 n3) zz5 zz7 ((z.1 : Nat) : Int)).1))))) ∧ True ∧ True ∧ True ∧ (((!(Rc.covers (partRc ⟨(-6 : Int), (-6 : Int), (6 : Int), (6 : Int)⟩ n0 n1 n2 n3) ((rectS (partRc ⟨(-6 : Int), (-6 : Int), (6 : Int), (6 : Int)⟩ n0 n1 n2 n3) zz5 zz7 ((z.1 : Nat) : Int)).1))) = false → True ∧ True ∧ True ∧ (Ans Try.prog 20 [RV.agg (zz20 z), RV.d zz3, RV.d zz4] (RV.d (DV.bool (Rc.has ((rectS (partRc ⟨(-6 : Int), (-6 : Int), (6 : Int), (6 : Int)⟩ n0 n1 n2 n3) zz5 zz7 ((z.1 : Nat) : Int)).1) (ptX (partRc ⟨(-6 : Int), (-6 : Int), (6 : Int), (6 : Int)⟩ n0 n1 n2 n3) x) (ptY (partRc ⟨(-6 : Int), (-6 : Int), (6 : Int), (6 : Int)⟩ n0 n1 n2 n3) y))))) ∧ True ∧ True ∧ True ∧ True ∧ True ∧ (((!((Rc.has ((rectS (partRc ⟨(-6 : Int), (-6 : Int), (6 : Int), (6 : Int)⟩ n0 n1 n2 n3) zz5 zz7 ((z.1 : Nat) : Int)).1) (ptX (partRc ⟨(-6 : Int), (-6 : Int), (6 : Int), (6 : Int)⟩ n0 n1 n2 n3) x) (ptY (partRc ⟨(-6 : Int), (-6 : Int), (6 : Int), (6 : Int)⟩ n0 n1 n2 n3) y)) == (((z.1 : Nat) : Int) == ((idxS (partRc ⟨(-6 : Int), (-6 : Int), (6 : Int), (6 : Int)⟩ n0 n1 n2 n3) zz5 zz7 (ptX (partRc ⟨(-6 : Int), (-6 : Int), (6 : Int), (6 : Int)⟩ n0 n1 n2 n3) x) (ptY (partRc ⟨(-6 : Int), (-6 : Int), (6 : Int), (6 : Int)⟩ n0 n1 n2 n3) y)).1)))) = true → True ∧ RV.d (DV.bool false) = RV.d (DV.bool true)) ∧ ((!((Rc.has ((rectS (partRc ⟨(-6 : Int), (-6 : Int), (6 : Int), (6 : Int)⟩ n0 n1 n2 n3) zz5 zz7 ((z.1 : Nat) : Int)).1) (ptX (partRc ⟨(-6 : Int), (-6 : Int), (6 : Int), (6 : Int)⟩ n0 n1 n2 n3) x) (ptY (partRc ⟨(-6 : Int), (-6 : Int), (6 : Int), (6 : Int)⟩ n0 n1 n2 n3) y)) == (((z.1 : Nat) : Int) == ((idxS (partRc ⟨(-6 : Int), (-6 : Int), (6 : Int), (6 : Int)⟩ n0 n1 n2 n3) zz5 zz7 (ptX (partRc ⟨(-6 : Int), (-6 : Int), (6 : Int), (6 : Int)⟩ n0 n1 n2 n3) x) (ptY (partRc ⟨(-6 : Int), (-6 : Int), (6 : Int), (6 : Int)⟩ n0 n1 n2 n3) y)).1)))) = false → True ∧ True ∧ (Ans Try.prog 21 [RV.agg (zz20 z)] (RV.d (DV.int .i64 (Rc.area ((rectS (partRc ⟨(-6 : Int), (-6 : Int), (6 : Int), (6 : Int)⟩ n0 n1 n2 n3) zz5 zz7 ((z.1 : Nat) : Int)).1))))) ∧ True ∧ True ∧ True ∧ True ∧ True ∧ ∃ z' : Nat × Int, (((z'.1 : Nat) : Int) ≤ (cntS (partRc ⟨(-6 : Int), (-6 : Int), 6, 6⟩ n0 n1 n2 n3) zz10 zz11).1 * (cntS (partRc ⟨(-6 : Int), (-6 : Int), 6, 6⟩ n0 n1 n2 n3) zz10 zz11).2.1 ∧ z'.2 = sumTo (fun i => (rectS (partRc ⟨(-6 : Int), (-6 : Int), 6, 6⟩ n0 n1 n2 n3) zz10 zz11 ((i : Nat) : Int)).1.area) z'.1) ∧ (((cntS (partRc ⟨(-6 : Int), (-6 : Int), 6, 6⟩ n0 n1 n2 n3) zz10 zz11).1 * (cntS (partRc ⟨(-6 : Int), (-6 : Int), 6, 6⟩ n0 n1 n2 n3) zz10 zz11).2.1).toNat - z'.1 < ((cntS (partRc ⟨(-6 : Int), (-6 : Int), 6, 6⟩ n0 n1 n2 n3) zz10 zz11).1 * (cntS (partRc ⟨(-6 : Int), (-6 : Int), 6, 6⟩ n0 n1 n2 n3) zz10 zz11).2.1).toNat - z.1) ∧ (((0 = 0) ∧ zz12 ∧ zz13 ∧ zz14 ∧ zz15 ∧ zz16 ∧ zz17 ∧ zz18 ∧ (DV.int .i64 (IntKind.wrap .i64 (z.2 + (Rc.area ((rectS (partRc ⟨(-6 : Int), (-6 : Int), (6 : Int), (6 : Int)⟩ n0 n1 n2 n3) zz5 zz7 ((z.1 : Nat) : Int)).1)))) = DV.int .i64 z'.2) ∧ (DV.int .i64 (IntKind.wrap .i64 (((z.1 : Nat) : Int) + (1 : Int))) = DV.int .i64 ((z'.1 : Nat) : Int)) ∧ True) ∧ zz19)))) ∧ ((!(Rc.covers (partRc ⟨(-6 : Int), (-6 : Int), (6 : Int), (6 : Int)⟩ n0 n1 n2 n3) ((rectS (partRc ⟨(-6 : Int), (-6 : Int), (6 : Int), (6 : Int)⟩ n0 n1 n2 n3) zz5 zz7 ((z.1 : Nat) : Int)).1))) = (!false) → True ∧ True ∧ RV.d (DV.bool false) = RV.d (DV.bool true)))) ∧ ((!((rectS (partRc ⟨(-6 : Int), (-6 : Int), (6 : Int), (6 : Int)⟩ n0 n1 n2 n3) zz5 zz7 ((z.1 : Nat) : Int)).2)) = (!false) → True ∧ True ∧ True ∧ True ∧ RV.d (DV.bool false) = RV.d (DV.bool true)))) ∧ ((decide (((z.1 : Nat) : Int) < zz9)) = false → True ∧ True ∧ (Ans Try.prog 21 [RV.agg zz0] (RV.d (DV.int .i64 zz21))) ∧ True ∧ True ∧ RV.d (DV.bool (z.2 == zz21)) = RV.d (DV.bool true))))))) ∧ ((decide (((cntS (partRc ⟨(-6 : Int), (-6 : Int), (6 : Int), (6 : Int)⟩ n0 n1 n2 n3) zz5 zz7).2.1) < (1 : Int))) = (!false) → True ∧ True ∧ RV.d (DV.bool false) = RV.d (DV.bool true)))) ∧ ((decide (((cntS (partRc ⟨(-6 : Int), (-6 : Int), (6 : Int), (6 : Int)⟩ n0 n1 n2 n3) zz5 zz7).1) < (1 : Int))) = (!false) → True ∧ True ∧ True ∧ True ∧ RV.d (DV.bool false) = RV.d (DV.bool true)))) ∧ ((!((idxS (partRc ⟨(-6 : Int), (-6 : Int), (6 : Int), (6 : Int)⟩ n0 n1 n2 n3) zz5 zz7 (ptX (partRc ⟨(-6 : Int), (-6 : Int), (6 : Int), (6 : Int)⟩ n0 n1 n2 n3) x) (ptY (partRc ⟨(-6 : Int), (-6 : Int), (6 : Int), (6 : Int)⟩ n0 n1 n2 n3) y)).2)) = (!false) → True ∧ True ∧ True ∧ True ∧ True ∧ True ∧ RV.d (DV.bool false) = RV.d (DV.bool true)))) ∧ ((!((cntS (partRc ⟨(-6 : Int), (-6 : Int), (6 : Int), (6 : Int)⟩ n0 n1 n2 n3) zz5 zz7).2.2)) = (!false) → True ∧ True ∧ True ∧ True ∧ True ∧ True ∧ True ∧ True ∧ RV.d (DV.bool false) = RV.d (DV.bool true)))) ∧ ((!true) = (!false) → True ∧ True ∧ True ∧ True ∧ True ∧ True ∧ True ∧ True ∧ True ∧ True ∧ RV.d (DV.bool false) = RV.d (DV.bool true)))) := by kernel_rfl
theorem L17_TilesCoverOnce_ans (n0 : Int) (n1 : Int) (n2 : Int) (n3 : Int) (w : Int) (h : Int) (x : Int) (y : Int) : Ans Try.prog 5 [RV.agg [DV.int .i64 n0, DV.int .i64 n1, DV.int .i64 n2, DV.int .i64 n3], RV.d (DV.int .i64 w), RV.d (DV.int .i64 h), RV.d (DV.int .i64 x), RV.d (DV.int .i64 y)] (RV.d (DV.bool true)) :=
  ans_of_vcg (Γ := gamCov) (L17_TilesCoverOnce_ann n0 n1 n2 n3 w h x y) mixed_ Try.func5 rfl (Nat.le_of_ble_eq_true rfl) fun hwf => by
    refine Eq.mpr (L17_TilesCoverOnce_vc n0 n1 n2 n3 w h x y) ?_
    simp only [true_and, and_true, RV.d.injEq, RV.agg.injEq, RV.tup.injEq, DV.bool.injEq, DV.int.injEq, DV.sl.injEq, List.cons.injEq, forall_const, Bool.not_false, Bool.not_true, Bool.not_eq_true', Bool.not_eq_false', decide_eq_true_eq, decide_eq_false_iff_not, Int.toNat_natCast, G_Mod_ans, L17_awake_ans]
    clear hwf
    obtain ⟨a, b, W, H, hP, a1, b1, W1, H1, aW, bH⟩ := part_six n0 n1 n2 n3
    have pr := G_Part_ans ⟨-6, -6, 6, 6⟩ n0 n1 n2 n3
    simp only [hP] at pr ⊢
    have cW : IntKind.wrap .i64 (a + W - a) = W := by rw [IntWalk.i64_in _ ⟨by omega, by omega⟩]; omega
    have cH : IntKind.wrap .i64 (b + H - b) = H := by rw [IntWalk.i64_in _ ⟨by omega, by omega⟩]; omega
    have mu := @modS_pos w W (by omega) (by omega)
    have mv := @modS_pos h H (by omega) (by omega)
    have mp := @modS_pos x W (by omega) (by omega)
    have mq := @modS_pos y H (by omega) (by omega)
    have ex : ptX ⟨a, b, a + W, b + H⟩ x = a + modS x W := by unfold ptX; simp only [cW]; rw [IntWalk.i64_in _ ⟨by omega, by omega⟩]
    have ey : ptY ⟨a, b, a + W, b + H⟩ y = b + modS y H := by unfold ptY; simp only [cH]; rw [IntWalk.i64_in _ ⟨by omega, by omega⟩]
    have pt := G_Point_ans ⟨a, b, a + W, b + H⟩ x y
    simp only [ex, ey] at pt ⊢
    simp only [cW, cH]
    have wu : IntKind.wrap .i64 (1 + modS w W) = 1 + modS w W := IntWalk.i64_in _ ⟨by omega, by omega⟩
    have wv : IntKind.wrap .i64 (1 + modS h H) = 1 + modS h H := IntWalk.i64_in _ ⟨by omega, by omega⟩
    simp only [wu, wv]
    obtain ⟨u, hu⟩ : ∃ u, u = 1 + modS w W := ⟨_, rfl⟩
    obtain ⟨v, hv⟩ : ∃ v, v = 1 + modS h H := ⟨_, rfl⟩
    rw [← hu, ← hv]
    have ub : 1 ≤ u ∧ u ≤ W := by omega
    have vb : 1 ≤ v ∧ v ≤ H := by omega
    generalize modS x W = p at *
    generalize modS y H = q at *
    obtain ⟨N, hN, n1, n2, n3⟩ := cnt_nat ub (by omega)
    obtain ⟨M, hM, m1, m2, m3⟩ := cnt_nat vb (by omega)
    have hc := cnt_is (a := a) (b := b) ⟨a1, aW⟩ ⟨b1, bH⟩ ub vb
    rw [hN, hM] at hc
    have p0 : 0 ≤ p / u := Int.ediv_nonneg (by omega) (by omega)
    have q0 : 0 ≤ q / v := Int.ediv_nonneg (by omega) (by omega)
    have he : (⟨a, b, a + W, b + H⟩ : Rc).empty = false := (Rc.empty_iff _).2 (by simp only; omega)
    have hh : (⟨a, b, a + W, b + H⟩ : Rc).has (a + p) (b + q) = true := (Rc.has_iff _ _ _).2 ⟨he, by simp only; omega, by simp only; omega, by simp only; omega, by simp only; omega⟩
    have pN : p / u < N := by
      by_cases h : p / u < N
      · exact h
      · exfalso
        have := ((div_iff ub.1).1 (rfl : p / u = p / u)).1
        have h2 := (n3 (N - 1) (by omega)).2.2.1 (by omega)
        have h3 : ((N - 1 : Nat) : Int) * u + u = (N : Int) * u := by rw [show ((N - 1 : Nat) : Int) = (N : Int) - 1 by omega, Int.sub_mul]; omega
        have h4 : (N : Int) * u ≤ p / u * u := Int.mul_le_mul_of_nonneg_right (by omega) (by omega)
        omega
    have qM : q / v < M := by
      by_cases h : q / v < M
      · exact h
      · exfalso
        have := ((div_iff vb.1).1 (rfl : q / v = q / v)).1
        have h2 := (m3 (M - 1) (by omega)).2.2.1 (by omega)
        have h3 : ((M - 1 : Nat) : Int) * v + v = (M : Int) * v := by rw [show ((M - 1 : Nat) : Int) = (M : Int) - 1 by omega, Int.sub_mul]; omega
        have h4 : (M : Int) * v ≤ q / v * v := Int.mul_le_mul_of_nonneg_right (by omega) (by omega)
        omega
    have bd : 0 ≤ q / v * N ∧ q / v * N ≤ 144 := by
      have := Int.mul_nonneg q0 (show 0 ≤ (N : Int) by omega)
      have := Int.mul_le_mul (show q / v ≤ 12 by omega) (show (N : Int) ≤ 12 by omega) (by omega) (by omega)
      omega
    have hi : idxS ⟨a, b, a + W, b + H⟩ u v (a + p) (b + q) = (q / v * N + p / u, true) := by
      unfold idxS
      rw [hc, hh]
      simp only [Bool.and_self, if_true]
      rw [show b + q - b = q from by omega, show a + p - a = p from by omega, IntWalk.i64_in q ⟨by omega, by omega⟩, IntWalk.i64_in p ⟨by omega, by omega⟩, Int.tdiv_eq_ediv_of_nonneg (by omega), Int.tdiv_eq_ediv_of_nonneg (by omega),
        IntWalk.i64_in (q / v) ⟨by omega, by omega⟩, IntWalk.i64_in (p / u) ⟨by omega, by omega⟩, IntWalk.i64_in (q / v * N) ⟨by omega, by omega⟩, IntWalk.i64_in _ ⟨by omega, by omega⟩]
    have ix := tile_Index_ans ⟨a, b, a + W, b + H⟩ u v (a + p) (b + q)
    simp only [hi, hc] at ix ⊢
    have NM : ((N * M : Nat) : Int) = (N : Int) * M := Int.natCast_mul _ _
    have nm : (N : Int) * M ≤ 144 := by
      have := Int.mul_le_mul (show (N : Int) ≤ 12 by omega) (show (M : Int) ≤ 12 by omega) (by omega) (by omega)
      omega
    have nm0 : 1 ≤ N * M := Nat.mul_pos n1 m1
    have wN : IntKind.wrap .i64 ((N : Int) * M) = (N : Int) * M := IntWalk.i64_in _ ⟨by omega, by omega⟩
    simp only [wN]
    have TR : ∀ k : Nat, k < N * M → rectS ⟨a, b, a + W, b + H⟩ u v (k : Int) = (tileRc a b W H u v (k % N) (k / N), true) := fun k hk => rect_is ⟨a1, aW⟩ ⟨b1, bH⟩ ub vb hN hM hk
    have SM : ∀ k : Nat, k ≤ N * M → sumTo (fun i => (rectS ⟨a, b, a + W, b + H⟩ u v ((i : Nat) : Int)).1.area) k = sumTo (fun i => (tileRc a b W H u v (i % N) (i / N)).area) k := fun k hk => sumTo_congr fun i hi => by rw [TR i (by omega)]
    have SB := sumTo_small (f := fun i => (tileRc a b W H u v (i % N) (i / N)).area) fun i => area_small ⟨a1, aW⟩ ⟨b1, bH⟩ ub.1 vb.1 _ _
    have SA := sum_areas ⟨a1, aW⟩ ⟨b1, bH⟩ ub vb hN hM
    have cA : Rc.area ⟨a, b, a + W, b + H⟩ = W * H := by simp only [Rc.area, he]; simp only [Bool.false_eq_true, if_false]; congr 1 <;> omega
    have RC := fun i : Int => tile_Rect_ans a b (a + W) (b + H) u v i (by rw [hc]; simp only; omega)
    have CT := tile_Count_ans a b (a + W) (b + H) u v
    rw [hc] at CT
    refine ⟨pr, pt, CT, ix, ?_⟩
    simp only [true_implies, false_implies, and_true, reduceCtorEq]
    refine ⟨fun _ => ⟨fun _ => ⟨fun h => by omega, fun _ => ⟨⟨(0, 0), ⟨by omega, rfl⟩, rfl, rfl⟩, fun z hz => ⟨fun hlt => ?_, fun hge => ?_⟩⟩⟩, fun h => by omega⟩, fun h => by omega⟩
    · obtain ⟨k, s⟩ := z
      obtain ⟨hk, hs⟩ := hz
      simp only at hk hs hlt ⊢
      have hkn : k < N * M := by omega
      have hx := Nat.mod_lt k (show 0 < N by omega)
      have hy : k / N < M := Nat.div_lt_of_lt_mul hkn
      have k1 := n3 _ hx
      have k2 := m3 _ hy
      obtain ⟨t1, t2, t3⟩ := tile_in ⟨a1, aW⟩ ⟨b1, bH⟩ ub.1 vb.1 ⟨k1.1, k1.2.1⟩ ⟨k2.1, k2.2.1⟩
      have th := tile_has (p := p) (q := q) ⟨a1, aW⟩ ⟨b1, bH⟩ ub.1 vb.1 ⟨k1.1, k1.2.1⟩ ⟨k2.1, k2.2.1⟩ (by omega) (by omega)
      have rk := RC (k : Int)
      simp only [TR k hkn] at rk ⊢
      have same : (tileRc a b W H u v (k % N) (k / N)).has (a + p) (b + q) = ((k : Int) == q / v * N + p / u) := by
        rw [th, Bool.eq_iff_iff, decide_eq_true_eq, beq_iff_eq]
        have e := Nat.div_add_mod k N
        constructor
        · rintro ⟨e1, e2⟩
          rw [e1, e2, ← Int.natCast_mul, ← Int.natCast_add, Nat.mul_comm (k / N)]
          exact congrArg _ e.symm
        · intro e1
          obtain ⟨P, hP'⟩ : ∃ P : Nat, p / u = (P : Int) := ⟨(p / u).toNat, by omega⟩
          obtain ⟨Q, hQ'⟩ : ∃ Q : Nat, q / v = (Q : Int) := ⟨(q / v).toNat, by omega⟩
          rw [hP', hQ'] at e1 ⊢
          have e2 : k = N * Q + P := by
            rw [← Int.natCast_mul, ← Int.natCast_add] at e1
            rw [Nat.mul_comm N Q]
            exact Int.ofNat.inj e1
          have hPN : P < N := by omega
          rw [e2, Nat.mul_add_mod, Nat.mod_eq_of_lt hPN, Nat.mul_add_div (by omega), Nat.div_eq_of_lt hPN, Nat.add_zero]
          exact ⟨rfl, rfl⟩
      have sk := SB k
      have ak := area_small (a := a) (b := b) (W := W) (H := H) (u := u) (v := v) ⟨a1, aW⟩ ⟨b1, bH⟩ ub.1 vb.1 (k % N) (k / N)
      have hs2 := hs
      rw [SM k (by omega)] at hs2
      rw [t2, same]
      have wk : IntKind.wrap .i64 ((k : Int) + 1) = ((k + 1 : Nat) : Int) := by rw [IntWalk.i64_in _ ⟨by omega, by omega⟩]; omega
      have fin : ∃ z' : Nat × Int, ((z'.1 : Int) ≤ (N : Int) * M ∧ z'.2 = sumTo (fun i => (rectS ⟨a, b, a + W, b + H⟩ u v ((i : Nat) : Int)).1.area) z'.1) ∧ ((N : Int) * M).toNat - z'.1 < ((N : Int) * M).toNat - k ∧ IntKind.wrap .i64 (s + (tileRc a b W H u v (k % N) (k / N)).area) = z'.2 ∧ IntKind.wrap .i64 ((k : Int) + 1) = (z'.1 : Int) := by
        refine ⟨(k + 1, s + (tileRc a b W H u v (k % N) (k / N)).area), ⟨by simp only; omega, ?_⟩, by simp only; omega, by rw [IntWalk.i64_in _ ⟨by omega, by omega⟩], wk⟩
        simp only
        rw [SM (k + 1) (by omega), hs2]
        rfl
      have same2 : ((tileRc a b W H u v (k % N) (k / N)).has (a + p) (b + q) == ((k : Int) == q / v * N + p / u)) = true := by rw [same]; simp
      have cv := R13_Covers_ans a b (a + W) (b + H) (tileRc a b W H u v (k % N) (k / N)).a (tileRc a b W H u v (k % N) (k / N)).b (tileRc a b W H u v (k % N) (k / N)).c (tileRc a b W H u v (k % N) (k / N)).d
      have ct := R13_Contains_ans (tileRc a b W H u v (k % N) (k / N)).a (tileRc a b W H u v (k % N) (k / N)).b (tileRc a b W H u v (k % N) (k / N)).c (tileRc a b W H u v (k % N) (k / N)).d (a + p) (b + q)
      have et : (⟨(tileRc a b W H u v (k % N) (k / N)).a, (tileRc a b W H u v (k % N) (k / N)).b, (tileRc a b W H u v (k % N) (k / N)).c, (tileRc a b W H u v (k % N) (k / N)).d⟩ : Rc) = tileRc a b W H u v (k % N) (k / N) := rfl
      rw [et, t2] at cv
      rw [et, same] at ct
      have n0_ : (((k : Int) == q / v * N + p / u) == ((k : Int) == q / v * N + p / u)) ≠ false := by simp
      (repeat' (first | apply And.intro | intro _)) <;> (first | exact rk | exact cv | exact ct | exact R13_Area_ans _ _ _ _ | exact fin | (exfalso; contradiction) | (exfalso; simp at *; done))
    · obtain ⟨k, s⟩ := z
      obtain ⟨hk, hs⟩ := hz
      simp only at hk hs hge ⊢
      have hkn : k = N * M := by omega
      subst hkn
      rw [SM _ (Nat.le_refl _), SA] at hs
      have ca := R13_Area_ans a b (a + W) (b + H)
      rw [cA] at ca ⊢
      rw [hs]
      exact ⟨ca, by simp⟩

end Go.Proofs.Ytoljdijpmnadpaa
