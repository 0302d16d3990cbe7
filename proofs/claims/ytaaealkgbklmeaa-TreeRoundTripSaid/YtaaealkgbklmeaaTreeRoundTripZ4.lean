/-
  Part 4 of what TreeRoundTrip rests on.
-/
import Derived.Test.YtaaealkgbklmeaaTreeRoundTripZ3
import Derived.Test.YtaaealkgbklmeaaRows
import Derived.JoinedOf
import Derived.KernelRfl
/-
  The example that the statements begin with.
-/
namespace Go.Proofs.Ytaaealkgbklmeaa
open Go.RowKit
set_option linter.unusedVariables false
set_option linter.unusedSimpArgs false
attribute [local irreducible] Ans AnsO AnsG AnsN AnsI
set_option maxRecDepth 4000
theorem aw_good : Good awN [0, 1] := ⟨by decide, by decide⟩
theorem aw_depth : depthP awN [0, 1] = 2 := rfl
def gamTz : Gam where
 pure := fun f xs =>
  if f = 8 then (match xs with | [.d (.sl pn pxs)] => some (RV.tup [RV.agg [DV.sl ((buildT (toOps (pxs))).1.length) (nodesD (buildT (toOps (pxs))).1), DV.sl ((buildT (toOps (pxs))).2.1.length) (is (buildT (toOps (pxs))).2.1)], RV.d (DV.int .i64 ((buildT (toOps (pxs))).2.2))]) | _ => none) else
  if f = 18 then (match xs with | [.d (.sl n xs), .d (.sl m ys)] => some (RV.d (DV.bool (decide (ints (xs) = ints (ys))))) | _ => none) else
  if f = 20 then (match xs with | [.agg [.sl an axs, .sl ar ars]] => some (RV.d (DV.int .i64 (depthP (toNodes (axs)) (ints (ars))))) | _ => none) else
  none
 modes := fun f =>
  none
 proc := fun f xs bs =>
  none
 iter := fun f cs =>
  none
def L21_awake_ann : Ann := Ann.leaf
theorem L21_awake_vc : vcg Try.prog gamTz 40 (bodyOf Try.f9) (L21_awake_ann ) kn0 (start []) (post Try.prog Try.f9.results.toList (· = RV.d (DV.bool true))) =
  (let zz0 := [DV.sl ((buildT (toOps (([DV.int .i64 1, DV.int .i64 0, DV.int .i64 0, DV.int .i64 0, DV.int .i64 0, DV.int .i64 0, DV.int .i64 0, DV.int .u16 0, DV.int .i64 0, DV.int .i64 0, DV.bool false, DV.bool false, DV.int .i64 2, DV.int .i64 0, DV.int .i64 0, DV.int .i64 0, DV.int .i64 0, DV.int .i64 0, DV.int .i64 0, DV.int .u16 0, DV.int .i64 0, DV.int .i64 0, DV.bool false, DV.bool false, DV.int .i64 1, DV.int .i64 0, DV.int .i64 0, DV.int .i64 0, DV.int .i64 0, DV.int .i64 0, DV.int .i64 0, DV.int .u16 0, DV.int .i64 0, DV.int .i64 0, DV.bool false, DV.bool false, DV.int .i64 3, DV.int .i64 0, DV.int .i64 0, DV.int .i64 0, DV.int .i64 0, DV.int .i64 0, DV.int .i64 0, DV.int .u16 0, DV.int .i64 0, DV.int .i64 0, DV.bool false, DV.bool false])))).1.length) (nodesD (buildT (toOps (([DV.int .i64 1, DV.int .i64 0, DV.int .i64 0, DV.int .i64 0, DV.int .i64 0, DV.int .i64 0, DV.int .i64 0, DV.int .u16 0, DV.int .i64 0, DV.int .i64 0, DV.bool false, DV.bool false, DV.int .i64 2, DV.int .i64 0, DV.int .i64 0, DV.int .i64 0, DV.int .i64 0, DV.int .i64 0, DV.int .i64 0, DV.int .u16 0, DV.int .i64 0, DV.int .i64 0, DV.bool false, DV.bool false, DV.int .i64 1, DV.int .i64 0, DV.int .i64 0, DV.int .i64 0, DV.int .i64 0, DV.int .i64 0, DV.int .i64 0, DV.int .u16 0, DV.int .i64 0, DV.int .i64 0, DV.bool false, DV.bool false, DV.int .i64 3, DV.int .i64 0, DV.int .i64 0, DV.int .i64 0, DV.int .i64 0, DV.int .i64 0, DV.int .i64 0, DV.int .u16 0, DV.int .i64 0, DV.int .i64 0, DV.bool false, DV.bool false])))).1), DV.sl ((buildT (toOps (([DV.int .i64 1, DV.int .i64 0, DV.int .i64 0, DV.int .i64 0, DV.int .i64 0, DV.int .i64 0, DV.int .i64 0, DV.int .u16 0, DV.int .i64 0, DV.int .i64 0, DV.bool false, DV.bool false, DV.int .i64 2, DV.int .i64 0, DV.int .i64 0, DV.int .i64 0, DV.int .i64 0, DV.int .i64 0, DV.int .i64 0, DV.int .u16 0, DV.int .i64 0, DV.int .i64 0, DV.bool false, DV.bool false, DV.int .i64 1, DV.int .i64 0, DV.int .i64 0, DV.int .i64 0, DV.int .i64 0, DV.int .i64 0, DV.int .i64 0, DV.int .u16 0, DV.int .i64 0, DV.int .i64 0, DV.bool false, DV.bool false, DV.int .i64 3, DV.int .i64 0, DV.int .i64 0, DV.int .i64 0, DV.int .i64 0, DV.int .i64 0, DV.int .i64 0, DV.int .u16 0, DV.int .i64 0, DV.int .i64 0, DV.bool false, DV.bool false])))).2.1.length) (is (buildT (toOps (([DV.int .i64 1, DV.int .i64 0, DV.int .i64 0, DV.int .i64 0, DV.int .i64 0, DV.int .i64 0, DV.int .i64 0, DV.int .u16 0, DV.int .i64 0, DV.int .i64 0, DV.bool false, DV.bool false, DV.int .i64 2, DV.int .i64 0, DV.int .i64 0, DV.int .i64 0, DV.int .i64 0, DV.int .i64 0, DV.int .i64 0, DV.int .u16 0, DV.int .i64 0, DV.int .i64 0, DV.bool false, DV.bool false, DV.int .i64 1, DV.int .i64 0, DV.int .i64 0, DV.int .i64 0, DV.int .i64 0, DV.int .i64 0, DV.int .i64 0, DV.int .u16 0, DV.int .i64 0, DV.int .i64 0, DV.bool false, DV.bool false, DV.int .i64 3, DV.int .i64 0, DV.int .i64 0, DV.int .i64 0, DV.int .i64 0, DV.int .i64 0, DV.int .i64 0, DV.int .u16 0, DV.int .i64 0, DV.int .i64 0, DV.bool false, DV.bool false])))).2.1)]; let zz1 := (DV.sl (lAt (nodesD (buildT (toOps (([DV.int .i64 1, DV.int .i64 0, DV.int .i64 0, DV.int .i64 0, DV.int .i64 0, DV.int .i64 0, DV.int .i64 0, DV.int .u16 0, DV.int .i64 0, DV.int .i64 0, DV.bool false, DV.bool false, DV.int .i64 2, DV.int .i64 0, DV.int .i64 0, DV.int .i64 0, DV.int .i64 0, DV.int .i64 0, DV.int .i64 0, DV.int .u16 0, DV.int .i64 0, DV.int .i64 0, DV.bool false, DV.bool false, DV.int .i64 1, DV.int .i64 0, DV.int .i64 0, DV.int .i64 0, DV.int .i64 0, DV.int .i64 0, DV.int .i64 0, DV.int .u16 0, DV.int .i64 0, DV.int .i64 0, DV.bool false, DV.bool false, DV.int .i64 3, DV.int .i64 0, DV.int .i64 0, DV.int .i64 0, DV.int .i64 0, DV.int .i64 0, DV.int .i64 0, DV.int .u16 0, DV.int .i64 0, DV.int .i64 0, DV.bool false, DV.bool false])))).1) 25) (cAt (nodesD (buildT (toOps (([DV.int .i64 1, DV.int .i64 0, DV.int .i64 0, DV.int .i64 0, DV.int .i64 0, DV.int .i64 0, DV.int .i64 0, DV.int .u16 0, DV.int .i64 0, DV.int .i64 0, DV.bool false, DV.bool false, DV.int .i64 2, DV.int .i64 0, DV.int .i64 0, DV.int .i64 0, DV.int .i64 0, DV.int .i64 0, DV.int .i64 0, DV.int .u16 0, DV.int .i64 0, DV.int .i64 0, DV.bool false, DV.bool false, DV.int .i64 1, DV.int .i64 0, DV.int .i64 0, DV.int .i64 0, DV.int .i64 0, DV.int .i64 0, DV.int .i64 0, DV.int .u16 0, DV.int .i64 0, DV.int .i64 0, DV.bool false, DV.bool false, DV.int .i64 3, DV.int .i64 0, DV.int .i64 0, DV.int .i64 0, DV.int .i64 0, DV.int .i64 0, DV.int .i64 0, DV.int .u16 0, DV.int .i64 0, DV.int .i64 0, DV.bool false, DV.bool false])))).1) 25)); True ∧ True ∧ True ∧ True ∧ True ∧ True ∧ (Ans Try.prog 8 [RV.d (DV.sl 4 ([DV.int .i64 1, DV.int .i64 0, DV.int .i64 0, DV.int .i64 0, DV.int .i64 0, DV.int .i64 0, DV.int .i64 0, DV.int .u16 0, DV.int .i64 0, DV.int .i64 0, DV.bool false, DV.bool false, DV.int .i64 2, DV.int .i64 0, DV.int .i64 0, DV.int .i64 0, DV.int .i64 0, DV.int .i64 0, DV.int .i64 0, DV.int .u16 0, DV.int .i64 0, DV.int .i64 0, DV.bool false, DV.bool false, DV.int .i64 1, DV.int .i64 0, DV.int .i64 0, DV.int .i64 0, DV.int .i64 0, DV.int .i64 0, DV.int .i64 0, DV.int .u16 0, DV.int .i64 0, DV.int .i64 0, DV.bool false, DV.bool false, DV.int .i64 3, DV.int .i64 0, DV.int .i64 0, DV.int .i64 0, DV.int .i64 0, DV.int .i64 0, DV.int .i64 0, DV.int .u16 0, DV.int .i64 0, DV.int .i64 0, DV.bool false, DV.bool false]))] (RV.tup [RV.agg zz0, RV.d (DV.int .i64 ((buildT (toOps (([DV.int .i64 1, DV.int .i64 0, DV.int .i64 0, DV.int .i64 0, DV.int .i64 0, DV.int .i64 0, DV.int .i64 0, DV.int .u16 0, DV.int .i64 0, DV.int .i64 0, DV.bool false, DV.bool false, DV.int .i64 2, DV.int .i64 0, DV.int .i64 0, DV.int .i64 0, DV.int .i64 0, DV.int .i64 0, DV.int .i64 0, DV.int .u16 0, DV.int .i64 0, DV.int .i64 0, DV.bool false, DV.bool false, DV.int .i64 1, DV.int .i64 0, DV.int .i64 0, DV.int .i64 0, DV.int .i64 0, DV.int .i64 0, DV.int .i64 0, DV.int .u16 0, DV.int .i64 0, DV.int .i64 0, DV.bool false, DV.bool false, DV.int .i64 3, DV.int .i64 0, DV.int .i64 0, DV.int .i64 0, DV.int .i64 0, DV.int .i64 0, DV.int .i64 0, DV.int .u16 0, DV.int .i64 0, DV.int .i64 0, DV.bool false, DV.bool false])))).2.2))])) ∧ True ∧ True ∧ True ∧ True ∧ True ∧ True ∧ True ∧ True ∧ True ∧ (((((buildT (toOps (([DV.int .i64 1, DV.int .i64 0, DV.int .i64 0, DV.int .i64 0, DV.int .i64 0, DV.int .i64 0, DV.int .i64 0, DV.int .u16 0, DV.int .i64 0, DV.int .i64 0, DV.bool false, DV.bool false, DV.int .i64 2, DV.int .i64 0, DV.int .i64 0, DV.int .i64 0, DV.int .i64 0, DV.int .i64 0, DV.int .i64 0, DV.int .u16 0, DV.int .i64 0, DV.int .i64 0, DV.bool false, DV.bool false, DV.int .i64 1, DV.int .i64 0, DV.int .i64 0, DV.int .i64 0, DV.int .i64 0, DV.int .i64 0, DV.int .i64 0, DV.int .u16 0, DV.int .i64 0, DV.int .i64 0, DV.bool false, DV.bool false, DV.int .i64 3, DV.int .i64 0, DV.int .i64 0, DV.int .i64 0, DV.int .i64 0, DV.int .i64 0, DV.int .i64 0, DV.int .u16 0, DV.int .i64 0, DV.int .i64 0, DV.bool false, DV.bool false])))).2.2) == (0 : Int)) = true → True ∧ True ∧ True ∧ True ∧ True ∧ True ∧ ((((((buildT (toOps (([DV.int .i64 1, DV.int .i64 0, DV.int .i64 0, DV.int .i64 0, DV.int .i64 0, DV.int .i64 0, DV.int .i64 0, DV.int .u16 0, DV.int .i64 0, DV.int .i64 0, DV.bool false, DV.bool false, DV.int .i64 2, DV.int .i64 0, DV.int .i64 0, DV.int .i64 0, DV.int .i64 0, DV.int .i64 0, DV.int .i64 0, DV.int .u16 0, DV.int .i64 0, DV.int .i64 0, DV.bool false, DV.bool false, DV.int .i64 1, DV.int .i64 0, DV.int .i64 0, DV.int .i64 0, DV.int .i64 0, DV.int .i64 0, DV.int .i64 0, DV.int .u16 0, DV.int .i64 0, DV.int .i64 0, DV.bool false, DV.bool false, DV.int .i64 3, DV.int .i64 0, DV.int .i64 0, DV.int .i64 0, DV.int .i64 0, DV.int .i64 0, DV.int .i64 0, DV.int .u16 0, DV.int .i64 0, DV.int .i64 0, DV.bool false, DV.bool false])))).1.length : Nat) : Int) == (3 : Int)) = true → True ∧ True ∧ True ∧ (Ans Try.prog 18 [RV.d (DV.sl ((buildT (toOps (([DV.int .i64 1, DV.int .i64 0, DV.int .i64 0, DV.int .i64 0, DV.int .i64 0, DV.int .i64 0, DV.int .i64 0, DV.int .u16 0, DV.int .i64 0, DV.int .i64 0, DV.bool false, DV.bool false, DV.int .i64 2, DV.int .i64 0, DV.int .i64 0, DV.int .i64 0, DV.int .i64 0, DV.int .i64 0, DV.int .i64 0, DV.int .u16 0, DV.int .i64 0, DV.int .i64 0, DV.bool false, DV.bool false, DV.int .i64 1, DV.int .i64 0, DV.int .i64 0, DV.int .i64 0, DV.int .i64 0, DV.int .i64 0, DV.int .i64 0, DV.int .u16 0, DV.int .i64 0, DV.int .i64 0, DV.bool false, DV.bool false, DV.int .i64 3, DV.int .i64 0, DV.int .i64 0, DV.int .i64 0, DV.int .i64 0, DV.int .i64 0, DV.int .i64 0, DV.int .u16 0, DV.int .i64 0, DV.int .i64 0, DV.bool false, DV.bool false])))).2.1.length) (is (buildT (toOps (([DV.int .i64 1, DV.int .i64 0, DV.int .i64 0, DV.int .i64 0, DV.int .i64 0, DV.int .i64 0, DV.int .i64 0, DV.int .u16 0, DV.int .i64 0, DV.int .i64 0, DV.bool false, DV.bool false, DV.int .i64 2, DV.int .i64 0, DV.int .i64 0, DV.int .i64 0, DV.int .i64 0, DV.int .i64 0, DV.int .i64 0, DV.int .u16 0, DV.int .i64 0, DV.int .i64 0, DV.bool false, DV.bool false, DV.int .i64 1, DV.int .i64 0, DV.int .i64 0, DV.int .i64 0, DV.int .i64 0, DV.int .i64 0, DV.int .i64 0, DV.int .u16 0, DV.int .i64 0, DV.int .i64 0, DV.bool false, DV.bool false, DV.int .i64 3, DV.int .i64 0, DV.int .i64 0, DV.int .i64 0, DV.int .i64 0, DV.int .i64 0, DV.int .i64 0, DV.int .u16 0, DV.int .i64 0, DV.int .i64 0, DV.bool false, DV.bool false])))).2.1)), RV.d (DV.sl 2 ([DV.int .i64 0, DV.int .i64 1]))] (RV.d (DV.bool (decide (ints ((is (buildT (toOps (([DV.int .i64 1, DV.int .i64 0, DV.int .i64 0, DV.int .i64 0, DV.int .i64 0, DV.int .i64 0, DV.int .i64 0, DV.int .u16 0, DV.int .i64 0, DV.int .i64 0, DV.bool false, DV.bool false, DV.int .i64 2, DV.int .i64 0, DV.int .i64 0, DV.int .i64 0, DV.int .i64 0, DV.int .i64 0, DV.int .i64 0, DV.int .u16 0, DV.int .i64 0, DV.int .i64 0, DV.bool false, DV.bool false, DV.int .i64 1, DV.int .i64 0, DV.int .i64 0, DV.int .i64 0, DV.int .i64 0, DV.int .i64 0, DV.int .i64 0, DV.int .u16 0, DV.int .i64 0, DV.int .i64 0, DV.bool false, DV.bool false, DV.int .i64 3, DV.int .i64 0, DV.int .i64 0, DV.int .i64 0, DV.int .i64 0, DV.int .i64 0, DV.int .i64 0, DV.int .u16 0, DV.int .i64 0, DV.int .i64 0, DV.bool false, DV.bool false])))).2.1)) = ints (([DV.int .i64 0, DV.int .i64 1]))))))) ∧ True ∧ True ∧ (((decide (ints ((is (buildT (toOps (([DV.int .i64 1, DV.int .i64 0, DV.int .i64 0, DV.int .i64 0, DV.int .i64 0, DV.int .i64 0, DV.int .i64 0, DV.int .u16 0, DV.int .i64 0, DV.int .i64 0, DV.bool false, DV.bool false, DV.int .i64 2, DV.int .i64 0, DV.int .i64 0, DV.int .i64 0, DV.int .i64 0, DV.int .i64 0, DV.int .i64 0, DV.int .u16 0, DV.int .i64 0, DV.int .i64 0, DV.bool false, DV.bool false, DV.int .i64 1, DV.int .i64 0, DV.int .i64 0, DV.int .i64 0, DV.int .i64 0, DV.int .i64 0, DV.int .i64 0, DV.int .u16 0, DV.int .i64 0, DV.int .i64 0, DV.bool false, DV.bool false, DV.int .i64 3, DV.int .i64 0, DV.int .i64 0, DV.int .i64 0, DV.int .i64 0, DV.int .i64 0, DV.int .i64 0, DV.int .u16 0, DV.int .i64 0, DV.int .i64 0, DV.bool false, DV.bool false])))).2.1)) = ints (([DV.int .i64 0, DV.int .i64 1])))) = true → True ∧ True ∧ (0 ≤ (1 : Int) ∧ (1 : Int) < (((buildT (toOps (([DV.int .i64 1, DV.int .i64 0, DV.int .i64 0, DV.int .i64 0, DV.int .i64 0, DV.int .i64 0, DV.int .i64 0, DV.int .u16 0, DV.int .i64 0, DV.int .i64 0, DV.bool false, DV.bool false, DV.int .i64 2, DV.int .i64 0, DV.int .i64 0, DV.int .i64 0, DV.int .i64 0, DV.int .i64 0, DV.int .i64 0, DV.int .u16 0, DV.int .i64 0, DV.int .i64 0, DV.bool false, DV.bool false, DV.int .i64 1, DV.int .i64 0, DV.int .i64 0, DV.int .i64 0, DV.int .i64 0, DV.int .i64 0, DV.int .i64 0, DV.int .u16 0, DV.int .i64 0, DV.int .i64 0, DV.bool false, DV.bool false, DV.int .i64 3, DV.int .i64 0, DV.int .i64 0, DV.int .i64 0, DV.int .i64 0, DV.int .i64 0, DV.int .i64 0, DV.int .u16 0, DV.int .i64 0, DV.int .i64 0, DV.bool false, DV.bool false])))).1.length : Nat) : Int) ∧ 13 < (nodesD (buildT (toOps (([DV.int .i64 1, DV.int .i64 0, DV.int .i64 0, DV.int .i64 0, DV.int .i64 0, DV.int .i64 0, DV.int .i64 0, DV.int .u16 0, DV.int .i64 0, DV.int .i64 0, DV.bool false, DV.bool false, DV.int .i64 2, DV.int .i64 0, DV.int .i64 0, DV.int .i64 0, DV.int .i64 0, DV.int .i64 0, DV.int .i64 0, DV.int .u16 0, DV.int .i64 0, DV.int .i64 0, DV.bool false, DV.bool false, DV.int .i64 1, DV.int .i64 0, DV.int .i64 0, DV.int .i64 0, DV.int .i64 0, DV.int .i64 0, DV.int .i64 0, DV.int .u16 0, DV.int .i64 0, DV.int .i64 0, DV.bool false, DV.bool false, DV.int .i64 3, DV.int .i64 0, DV.int .i64 0, DV.int .i64 0, DV.int .i64 0, DV.int .i64 0, DV.int .i64 0, DV.int .u16 0, DV.int .i64 0, DV.int .i64 0, DV.bool false, DV.bool false])))).1).length) ∧ True ∧ (((nodesD (buildT (toOps (([DV.int .i64 1, DV.int .i64 0, DV.int .i64 0, DV.int .i64 0, DV.int .i64 0, DV.int .i64 0, DV.int .i64 0, DV.int .u16 0, DV.int .i64 0, DV.int .i64 0, DV.bool false, DV.bool false, DV.int .i64 2, DV.int .i64 0, DV.int .i64 0, DV.int .i64 0, DV.int .i64 0, DV.int .i64 0, DV.int .i64 0, DV.int .u16 0, DV.int .i64 0, DV.int .i64 0, DV.bool false, DV.bool false, DV.int .i64 1, DV.int .i64 0, DV.int .i64 0, DV.int .i64 0, DV.int .i64 0, DV.int .i64 0, DV.int .i64 0, DV.int .u16 0, DV.int .i64 0, DV.int .i64 0, DV.bool false, DV.bool false, DV.int .i64 3, DV.int .i64 0, DV.int .i64 0, DV.int .i64 0, DV.int .i64 0, DV.int .i64 0, DV.int .i64 0, DV.int .u16 0, DV.int .i64 0, DV.int .i64 0, DV.bool false, DV.bool false])))).1)[25]? = some zz1) ∧ True) ∧ True ∧ (Ans Try.prog 18 [RV.d zz1, RV.d (DV.sl 1 ([DV.int .i64 2]))] (RV.d (DV.bool (decide (ints ((cAt (nodesD (buildT (toOps (([DV.int .i64 1, DV.int .i64 0, DV.int .i64 0, DV.int .i64 0, DV.int .i64 0, DV.int .i64 0, DV.int .i64 0, DV.int .u16 0, DV.int .i64 0, DV.int .i64 0, DV.bool false, DV.bool false, DV.int .i64 2, DV.int .i64 0, DV.int .i64 0, DV.int .i64 0, DV.int .i64 0, DV.int .i64 0, DV.int .i64 0, DV.int .u16 0, DV.int .i64 0, DV.int .i64 0, DV.bool false, DV.bool false, DV.int .i64 1, DV.int .i64 0, DV.int .i64 0, DV.int .i64 0, DV.int .i64 0, DV.int .i64 0, DV.int .i64 0, DV.int .u16 0, DV.int .i64 0, DV.int .i64 0, DV.bool false, DV.bool false, DV.int .i64 3, DV.int .i64 0, DV.int .i64 0, DV.int .i64 0, DV.int .i64 0, DV.int .i64 0, DV.int .i64 0, DV.int .u16 0, DV.int .i64 0, DV.int .i64 0, DV.bool false, DV.bool false])))).1) 25)) = ints (([DV.int .i64 2]))))))) ∧ True ∧ True ∧ (((decide (ints ((cAt (nodesD (buildT (toOps (([DV.int .i64 1, DV.int .i64 0, DV.int .i64 0, DV.int .i64 0, DV.int .i64 0, DV.int .i64 0, DV.int .i64 0, DV.int .u16 0, DV.int .i64 0, DV.int .i64 0, DV.bool false, DV.bool false, DV.int .i64 2, DV.int .i64 0, DV.int .i64 0, DV.int .i64 0, DV.int .i64 0, DV.int .i64 0, DV.int .i64 0, DV.int .u16 0, DV.int .i64 0, DV.int .i64 0, DV.bool false, DV.bool false, DV.int .i64 1, DV.int .i64 0, DV.int .i64 0, DV.int .i64 0, DV.int .i64 0, DV.int .i64 0, DV.int .i64 0, DV.int .u16 0, DV.int .i64 0, DV.int .i64 0, DV.bool false, DV.bool false, DV.int .i64 3, DV.int .i64 0, DV.int .i64 0, DV.int .i64 0, DV.int .i64 0, DV.int .i64 0, DV.int .i64 0, DV.int .u16 0, DV.int .i64 0, DV.int .i64 0, DV.bool false, DV.bool false])))).1) 25)) = ints (([DV.int .i64 2])))) = true → True ∧ (Ans Try.prog 20 [RV.agg zz0] (RV.d (DV.int .i64 (depthP (toNodes ((nodesD (buildT (toOps (([DV.int .i64 1, DV.int .i64 0, DV.int .i64 0, DV.int .i64 0, DV.int .i64 0, DV.int .i64 0, DV.int .i64 0, DV.int .u16 0, DV.int .i64 0, DV.int .i64 0, DV.bool false, DV.bool false, DV.int .i64 2, DV.int .i64 0, DV.int .i64 0, DV.int .i64 0, DV.int .i64 0, DV.int .i64 0, DV.int .i64 0, DV.int .u16 0, DV.int .i64 0, DV.int .i64 0, DV.bool false, DV.bool false, DV.int .i64 1, DV.int .i64 0, DV.int .i64 0, DV.int .i64 0, DV.int .i64 0, DV.int .i64 0, DV.int .i64 0, DV.int .u16 0, DV.int .i64 0, DV.int .i64 0, DV.bool false, DV.bool false, DV.int .i64 3, DV.int .i64 0, DV.int .i64 0, DV.int .i64 0, DV.int .i64 0, DV.int .i64 0, DV.int .i64 0, DV.int .u16 0, DV.int .i64 0, DV.int .i64 0, DV.bool false, DV.bool false])))).1))) (ints ((is (buildT (toOps (([DV.int .i64 1, DV.int .i64 0, DV.int .i64 0, DV.int .i64 0, DV.int .i64 0, DV.int .i64 0, DV.int .i64 0, DV.int .u16 0, DV.int .i64 0, DV.int .i64 0, DV.bool false, DV.bool false, DV.int .i64 2, DV.int .i64 0, DV.int .i64 0, DV.int .i64 0, DV.int .i64 0, DV.int .i64 0, DV.int .i64 0, DV.int .u16 0, DV.int .i64 0, DV.int .i64 0, DV.bool false, DV.bool false, DV.int .i64 1, DV.int .i64 0, DV.int .i64 0, DV.int .i64 0, DV.int .i64 0, DV.int .i64 0, DV.int .i64 0, DV.int .u16 0, DV.int .i64 0, DV.int .i64 0, DV.bool false, DV.bool false, DV.int .i64 3, DV.int .i64 0, DV.int .i64 0, DV.int .i64 0, DV.int .i64 0, DV.int .i64 0, DV.int .i64 0, DV.int .u16 0, DV.int .i64 0, DV.int .i64 0, DV.bool false, DV.bool false])))).2.1))))))) ∧ True ∧ True ∧ True ∧ RV.d (DV.bool ((depthP (toNodes ((nodesD (buildT (toOps (([DV.int .i64 1, DV.int .i64 0, DV.int .i64 0, DV.int .i64 0, DV.int .i64 0, DV.int .i64 0, DV.int .i64 0, DV.int .u16 0, DV.int .i64 0, DV.int .i64 0, DV.bool false, DV.bool false, DV.int .i64 2, DV.int .i64 0, DV.int .i64 0, DV.int .i64 0, DV.int .i64 0, DV.int .i64 0, DV.int .i64 0, DV.int .u16 0, DV.int .i64 0, DV.int .i64 0, DV.bool false, DV.bool false, DV.int .i64 1, DV.int .i64 0, DV.int .i64 0, DV.int .i64 0, DV.int .i64 0, DV.int .i64 0, DV.int .i64 0, DV.int .u16 0, DV.int .i64 0, DV.int .i64 0, DV.bool false, DV.bool false, DV.int .i64 3, DV.int .i64 0, DV.int .i64 0, DV.int .i64 0, DV.int .i64 0, DV.int .i64 0, DV.int .i64 0, DV.int .u16 0, DV.int .i64 0, DV.int .i64 0, DV.bool false, DV.bool false])))).1))) (ints ((is (buildT (toOps (([DV.int .i64 1, DV.int .i64 0, DV.int .i64 0, DV.int .i64 0, DV.int .i64 0, DV.int .i64 0, DV.int .i64 0, DV.int .u16 0, DV.int .i64 0, DV.int .i64 0, DV.bool false, DV.bool false, DV.int .i64 2, DV.int .i64 0, DV.int .i64 0, DV.int .i64 0, DV.int .i64 0, DV.int .i64 0, DV.int .i64 0, DV.int .u16 0, DV.int .i64 0, DV.int .i64 0, DV.bool false, DV.bool false, DV.int .i64 1, DV.int .i64 0, DV.int .i64 0, DV.int .i64 0, DV.int .i64 0, DV.int .i64 0, DV.int .i64 0, DV.int .u16 0, DV.int .i64 0, DV.int .i64 0, DV.bool false, DV.bool false, DV.int .i64 3, DV.int .i64 0, DV.int .i64 0, DV.int .i64 0, DV.int .i64 0, DV.int .i64 0, DV.int .i64 0, DV.int .u16 0, DV.int .i64 0, DV.int .i64 0, DV.bool false, DV.bool false])))).2.1)))) == (2 : Int))) = RV.d (DV.bool true)) ∧ ((decide (ints ((cAt (nodesD (buildT (toOps (([DV.int .i64 1, DV.int .i64 0, DV.int .i64 0, DV.int .i64 0, DV.int .i64 0, DV.int .i64 0, DV.int .i64 0, DV.int .u16 0, DV.int .i64 0, DV.int .i64 0, DV.bool false, DV.bool false, DV.int .i64 2, DV.int .i64 0, DV.int .i64 0, DV.int .i64 0, DV.int .i64 0, DV.int .i64 0, DV.int .i64 0, DV.int .u16 0, DV.int .i64 0, DV.int .i64 0, DV.bool false, DV.bool false, DV.int .i64 1, DV.int .i64 0, DV.int .i64 0, DV.int .i64 0, DV.int .i64 0, DV.int .i64 0, DV.int .i64 0, DV.int .u16 0, DV.int .i64 0, DV.int .i64 0, DV.bool false, DV.bool false, DV.int .i64 3, DV.int .i64 0, DV.int .i64 0, DV.int .i64 0, DV.int .i64 0, DV.int .i64 0, DV.int .i64 0, DV.int .u16 0, DV.int .i64 0, DV.int .i64 0, DV.bool false, DV.bool false])))).1) 25)) = ints (([DV.int .i64 2])))) = (!true) → True ∧ True ∧ RV.d (DV.bool false) = RV.d (DV.bool true)))) ∧ ((decide (ints ((is (buildT (toOps (([DV.int .i64 1, DV.int .i64 0, DV.int .i64 0, DV.int .i64 0, DV.int .i64 0, DV.int .i64 0, DV.int .i64 0, DV.int .u16 0, DV.int .i64 0, DV.int .i64 0, DV.bool false, DV.bool false, DV.int .i64 2, DV.int .i64 0, DV.int .i64 0, DV.int .i64 0, DV.int .i64 0, DV.int .i64 0, DV.int .i64 0, DV.int .u16 0, DV.int .i64 0, DV.int .i64 0, DV.bool false, DV.bool false, DV.int .i64 1, DV.int .i64 0, DV.int .i64 0, DV.int .i64 0, DV.int .i64 0, DV.int .i64 0, DV.int .i64 0, DV.int .u16 0, DV.int .i64 0, DV.int .i64 0, DV.bool false, DV.bool false, DV.int .i64 3, DV.int .i64 0, DV.int .i64 0, DV.int .i64 0, DV.int .i64 0, DV.int .i64 0, DV.int .i64 0, DV.int .u16 0, DV.int .i64 0, DV.int .i64 0, DV.bool false, DV.bool false])))).2.1)) = ints (([DV.int .i64 0, DV.int .i64 1])))) = (!true) → True ∧ True ∧ True ∧ True ∧ RV.d (DV.bool false) = RV.d (DV.bool true)))) ∧ (((((buildT (toOps (([DV.int .i64 1, DV.int .i64 0, DV.int .i64 0, DV.int .i64 0, DV.int .i64 0, DV.int .i64 0, DV.int .i64 0, DV.int .u16 0, DV.int .i64 0, DV.int .i64 0, DV.bool false, DV.bool false, DV.int .i64 2, DV.int .i64 0, DV.int .i64 0, DV.int .i64 0, DV.int .i64 0, DV.int .i64 0, DV.int .i64 0, DV.int .u16 0, DV.int .i64 0, DV.int .i64 0, DV.bool false, DV.bool false, DV.int .i64 1, DV.int .i64 0, DV.int .i64 0, DV.int .i64 0, DV.int .i64 0, DV.int .i64 0, DV.int .i64 0, DV.int .u16 0, DV.int .i64 0, DV.int .i64 0, DV.bool false, DV.bool false, DV.int .i64 3, DV.int .i64 0, DV.int .i64 0, DV.int .i64 0, DV.int .i64 0, DV.int .i64 0, DV.int .i64 0, DV.int .u16 0, DV.int .i64 0, DV.int .i64 0, DV.bool false, DV.bool false])))).1.length : Nat) : Int) == (3 : Int)) = (!true) → True ∧ True ∧ True ∧ True ∧ True ∧ True ∧ RV.d (DV.bool false) = RV.d (DV.bool true)))) ∧ ((((buildT (toOps (([DV.int .i64 1, DV.int .i64 0, DV.int .i64 0, DV.int .i64 0, DV.int .i64 0, DV.int .i64 0, DV.int .i64 0, DV.int .u16 0, DV.int .i64 0, DV.int .i64 0, DV.bool false, DV.bool false, DV.int .i64 2, DV.int .i64 0, DV.int .i64 0, DV.int .i64 0, DV.int .i64 0, DV.int .i64 0, DV.int .i64 0, DV.int .u16 0, DV.int .i64 0, DV.int .i64 0, DV.bool false, DV.bool false, DV.int .i64 1, DV.int .i64 0, DV.int .i64 0, DV.int .i64 0, DV.int .i64 0, DV.int .i64 0, DV.int .i64 0, DV.int .u16 0, DV.int .i64 0, DV.int .i64 0, DV.bool false, DV.bool false, DV.int .i64 3, DV.int .i64 0, DV.int .i64 0, DV.int .i64 0, DV.int .i64 0, DV.int .i64 0, DV.int .i64 0, DV.int .u16 0, DV.int .i64 0, DV.int .i64 0, DV.bool false, DV.bool false])))).2.2) == (0 : Int)) = (!true) → True ∧ True ∧ True ∧ True ∧ True ∧ True ∧ True ∧ True ∧ RV.d (DV.bool false) = RV.d (DV.bool true)))) := by kernel_rfl
theorem L21_awake_ans : Ans Try.prog 9 [] (RV.d (DV.bool true)) :=
  ans_of_vcg (Γ := gamTz) (L21_awake_ann ) mixed_ Try.func9 rfl (Nat.le_of_ble_eq_true rfl) fun hwf => by
    refine Eq.mpr (L21_awake_vc ) ?_
    simp only [true_and, and_true, RV.d.injEq, RV.agg.injEq, RV.tup.injEq, DV.bool.injEq, DV.int.injEq, DV.sl.injEq, List.cons.injEq, forall_const, Bool.not_false, Bool.not_true, Bool.not_eq_true', Bool.not_eq_false', decide_eq_true_eq, decide_eq_false_iff_not, Int.toNat_natCast]
    have eL : ([DV.int .i64 1, DV.int .i64 0, DV.int .i64 0, DV.int .i64 0, DV.int .i64 0, DV.int .i64 0, DV.int .i64 0, DV.int .u16 0, DV.int .i64 0, DV.int .i64 0, DV.bool false, DV.bool false, DV.int .i64 2, DV.int .i64 0, DV.int .i64 0, DV.int .i64 0, DV.int .i64 0, DV.int .i64 0, DV.int .i64 0, DV.int .u16 0, DV.int .i64 0, DV.int .i64 0, DV.bool false, DV.bool false, DV.int .i64 1, DV.int .i64 0, DV.int .i64 0, DV.int .i64 0, DV.int .i64 0, DV.int .i64 0, DV.int .i64 0, DV.int .u16 0, DV.int .i64 0, DV.int .i64 0, DV.bool false, DV.bool false, DV.int .i64 3, DV.int .i64 0, DV.int .i64 0, DV.int .i64 0, DV.int .i64 0, DV.int .i64 0, DV.int .i64 0, DV.int .u16 0, DV.int .i64 0, DV.int .i64 0, DV.bool false, DV.bool false] : List DV) = ops awL := rfl
    have aB := tree_Build_ans awL (by decide)
    have aD := tree_Depth_ans awN [0, 1] (by decide) aw_good
    rw [aw_build] at aB
    simp only [eL, toOps_ops, aw_build, toNodes_nodesD, ints_is, aw_depth, treeD] at aB aD ⊢
    have n12 : lAt (nodesD awN) 25 = 1 := rfl
    have c12 : cAt (nodesD awN) 25 = is [2] := rfl
    have e1 : ([DV.int .i64 0, DV.int .i64 1] : List DV) = is [0, 1] := rfl
    have e2 : ([DV.int .i64 2] : List DV) = is [2] := rfl
    have a1 := R18_SameInts_ans [0, 1] [0, 1]
    have a2 := R18_SameInts_ans [2] [2]
    clear hwf eL
    simp only [n12, c12, e1, e2, ints_is] at a1 a2 ⊢
    refine ⟨aB, fun _ => ⟨fun _ => ⟨a1, fun _ => ⟨⟨by omega, by decide, by decide⟩, rfl, a2, fun _ => ⟨aD, rfl⟩, fun h => absurd trivial h⟩, fun h => absurd trivial h⟩, fun h => absurd h (by decide)⟩, fun h => absurd h (by decide)⟩
end Go.Proofs.Ytaaealkgbklmeaa
/-
  The operations of a forest.
-/
namespace Go.Proofs.Ytaaealkgbklmeaa
open Go.RowKit
set_option linter.unusedVariables false
set_option linter.unusedSimpArgs false
attribute [local irreducible] Ans AnsO AnsG AnsN AnsI
set_option maxRecDepth 4000
/-- the operations of nodes -/
def emD (ns : Nodes) : Nat → List Int → List Oq
  | 0, _ => []
  | d + 1, l => l.flatMap fun x => match ns[x.toNat]? with
    | none => []
    | some p => p.1 :: (if p.1.kind = 2 then emD ns d p.2 ++ [popO] else [])
def Deep (ns : Nodes) : Nat → List Int → Prop
  | 0, l => l = []
  | d + 1, l => ∀ x ∈ l, 0 ≤ x ∧ ∃ p, ns[x.toNat]? = some p ∧ (p.1.kind = 2 → Deep ns d p.2)
theorem emD_stable (ns : Nodes) : ∀ (d e : Nat) (l : List Int), Deep ns d l → d ≤ e → emD ns e l = emD ns d l
  | 0, e, l, h, hd => by
    have h : l = [] := h
    subst h
    cases e <;> rfl
  | d + 1, 0, l, h, hd => by omega
  | d + 1, e + 1, l, h, hd => by
    simp only [emD]
    have : ∀ x ∈ l, (match ns[x.toNat]? with
      | none => []
      | some p => p.1 :: (if p.1.kind = 2 then emD ns e p.2 ++ [popO] else [])) = (match ns[x.toNat]? with
      | none => []
      | some p => p.1 :: (if p.1.kind = 2 then emD ns d p.2 ++ [popO] else [])) := fun x hx => by
      obtain ⟨_, p, hp, hd2⟩ := h x hx
      rw [hp]
      simp only
      split
      · rename_i h2
        rw [emD_stable ns d e p.2 (hd2 h2) (by omega)]
      · rfl
    rw [List.flatMap_def, List.flatMap_def, List.map_congr_left this]
def emN (ns : Nodes) (l : List Int) : List Oq := emD ns ns.length l
def em1 (ns : Nodes) (p : Oq × List Int) : List Oq := p.1 :: (if p.1.kind = 2 then emN ns p.2 ++ [popO] else [])
theorem emN_take {ns : Nodes} {d : Nat} {l : List Int} (h : Deep ns (d + 1) l) (hd : d + 1 ≤ ns.length) {k : Nat} (hk : k < l.length) {p : Oq × List Int} (hp : ns[l[k].toNat]? = some p) : emN ns (l.take (k + 1)) = emN ns (l.take k) ++ em1 ns p := by
  obtain ⟨F, hF⟩ : ∃ F, ns.length = F + 1 := ⟨ns.length - 1, by omega⟩
  obtain ⟨_, q, hq, hdq⟩ := h l[k] (List.getElem_mem hk)
  rw [hp] at hq
  injection hq with hq
  subst hq
  have hL : ∀ m, emN ns m = m.flatMap fun x => match ns[x.toNat]? with
    | none => []
    | some p => p.1 :: (if p.1.kind = 2 then emD ns F p.2 ++ [popO] else []) := fun m => by unfold emN; rw [hF]; rfl
  rw [hL (l.take (k + 1)), List.take_add_one, List.getElem?_eq_getElem hk, Option.toList_some, List.flatMap_append, ← hL (l.take k)]
  simp only [List.flatMap_cons, List.flatMap_nil, List.append_nil, hp]
  unfold em1
  by_cases h2 : p.1.kind = 2
  · have e : emN ns p.2 = emD ns F p.2 := (emD_stable ns d ns.length p.2 (hdq h2) (by omega)).trans (emD_stable ns d F p.2 (hdq h2) (by omega)).symm
    rw [if_pos h2, if_pos h2, e]
  · rw [if_neg h2, if_neg h2]
theorem emN_nil (ns : Nodes) : emN ns [] = [] := by
  unfold emN
  cases ns.length <;> rfl
theorem emN_mono {ns : Nodes} {l : List Int} (k : Nat) : (emN ns (l.take k)).length ≤ (emN ns l).length := by
  unfold emN
  cases ns.length with
  | zero => exact Nat.le_refl _
  | succ F =>
    simp only [emD]
    conv => rhs; rw [← List.take_append_drop k l]
    rw [List.flatMap_append, List.length_append]
    omega
def EmOK (ns : Nodes) (rs l : List Int) (q : List Oq) : Prop := AnsG Try.prog 22 0 [AV.agg [Cl.d (DV.sl ns.length (nodesD ns)), Cl.d (DV.sl rs.length (is rs))], AV.one (Cl.d (DV.sl l.length (is l))), AV.one (Cl.ref 0 q.length)] [Bx.row 35 12 (ops q)] ⟨AV.one (Cl.ref 0 (q ++ emN ns l).length), [Bx.row 35 12 (ops (q ++ emN ns l))], false⟩
theorem kid_rd' {l : Nodes} {k : Nat} (h : k < l.length) : (nodesD l)[k * 13 + 12]? = some (DV.sl l[k].2.length (is l[k].2)) := by rw [nodesD_get h 12 (by omega)]; rfl
def gamTm : Gam where
 pure := fun f xs =>
  none
 modes := fun f =>
  if f = 22 then some ([true, true, false], 0, 1) else
  none
 proc := fun f xs bs =>
  if f = 22 then (match xs, bs with | [AV.agg [Cl.d (DV.sl an axs), Cl.d (DV.sl ar ars)], AV.one (Cl.d (DV.sl ln lxs)), AV.one (Cl.ref 0 on)], [Bx.row _ _ oxs] => some ⟨AV.one (Cl.ref 0 ((toOps (oxs) ++ emN (toNodes (axs)) (ints (lxs))).length)), [Bx.row 35 12 (ops (toOps (oxs) ++ emN (toNodes (axs)) (ints (lxs))))], false⟩ | _, _ => none) else
  none
 iter := fun f cs =>
  none
def tree_emit_ann (ns : Nodes) (rs : List Int) (l : List Int) (q : List Oq) : Ann := (Ann.seq Ann.leaf (Ann.seq (Ann.seq Ann.leaf (Ann.loop ⟨Nat, fun k => k ≤ l.length, fun k => ⟨[(2, AV.one (Cl.ref 9001 ((q ++ emN ns (l.take k)).length))), (3, AV.one (Cl.ptr 3 0)), (9, AV.one (Cl.d (DV.sl l.length (is l)))), (10, AV.one (Cl.d (DV.int .i64 ((l.length : Nat) : Int)))), (11, AV.one (Cl.d (DV.int .i64 ((k : Nat) : Int))))], [(9001, Bx.row 35 12 (ops (q ++ emN ns (l.take k)))), (3, Bx.cells [Cl.d (DV.sl ns.length (nodesD ns)), Cl.d (DV.sl rs.length (is rs))])]⟩, fun k => l.length - k⟩ fun k => Ann.leaf)) Ann.leaf))
theorem tree_emit_vc (ns : Nodes) (rs : List Int) (l : List Int) (q : List Oq) : vcg Try.prog gamTm ⟨46, fun _ => false, List.range 0, false⟩ (bodyOf Try.f22) (tree_emit_ann ns rs l q) kn0 (startG [AV.agg [Cl.d (DV.sl ns.length (nodesD ns)), Cl.d (DV.sl rs.length (is rs))], AV.one (Cl.d (DV.sl l.length (is l))), AV.one (Cl.ref 0 q.length)] [Bx.row 35 12 (ops q)]) (postG Try.prog ⟨46, fun _ => false, List.range 0, false⟩ Try.f22.results.toList ⟨AV.one (Cl.ref 0 ((toOps (ops q) ++ emN (toNodes (nodesD ns)) (ints (is l))).length)), [Bx.row 35 12 (ops (toOps (ops q) ++ emN (toNodes (nodesD ns)) (ints (is l))))], false⟩) =
  (let zz0 := (DV.sl l.length (is l) = DV.sl l.length (is l)); let zz1 := (DV.int .i64 ((l.length : Nat) : Int) = DV.int .i64 ((l.length : Nat) : Int)); let zz2 := [DV.sl ns.length (nodesD ns), DV.sl rs.length (is rs)]; let zz3 := (zz2 = zz2); let zz4 := fun (k : Nat) => (0 ≤ nAt (is l) (((k : Nat) : Int).toNat * 1) ∧ nAt (is l) (((k : Nat) : Int).toNat * 1) < ((ns.length : Nat) : Int) ∧ (nAt (is l) (((k : Nat) : Int).toNat * 1)).toNat * 13 < (nodesD ns).length); let zz5 := fun (k : Nat) => fun (k' : Nat) => (l.length - k' < l.length - k); let zz6 := fun (k : Nat) => fun (k' : Nat) => (DV.int .i64 (IntKind.wrap .i64 (((k : Nat) : Int) + (1 : Int))) = DV.int .i64 ((k' : Nat) : Int)); True ∧ True ∧ True ∧ True ∧ True ∧ ((∃ k : Nat, (k ≤ l.length) ∧ (((q.length = (q ++ emN ns (l.take k)).length) ∧ (0 = 0) ∧ zz0 ∧ zz1 ∧ (DV.int .i64 0 = DV.int .i64 ((k : Nat) : Int)) ∧ True) ∧ ((ops q = ops (q ++ emN ns (l.take k))) ∧ zz3 ∧ True))) ∧ ∀ k : Nat, (k ≤ l.length) → True ∧ (((decide (((k : Nat) : Int) < ((l.length : Nat) : Int))) = true → (0 ≤ ((k : Nat) : Int) ∧ ((k : Nat) : Int) < ((l.length : Nat) : Int) ∧ ((k : Nat) : Int).toNat * 1 < (is l).length) ∧ (((is l)[((k : Nat) : Int).toNat * 1]? = some (DV.int .i64 (nAt (is l) (((k : Nat) : Int).toNat * 1)))) ∧ True) ∧ True ∧ True ∧ True ∧ True ∧ True ∧ (zz4 k) ∧ True ∧ (((nodesD ns)[(nAt (is l) (((k : Nat) : Int).toNat * 1)).toNat * 13 + 0]? = some (DV.int .i64 (nAt (nodesD ns) ((nAt (is l) (((k : Nat) : Int).toNat * 1)).toNat * 13 + 0)))) ∧ ((nodesD ns)[(nAt (is l) (((k : Nat) : Int).toNat * 1)).toNat * 13 + 0 + 1]? = some (DV.int .i64 (nAt (nodesD ns) ((nAt (is l) (((k : Nat) : Int).toNat * 1)).toNat * 13 + 0 + 1)))) ∧ ((nodesD ns)[(nAt (is l) (((k : Nat) : Int).toNat * 1)).toNat * 13 + 0 + 1 + 1]? = some (DV.int .i64 (nAt (nodesD ns) ((nAt (is l) (((k : Nat) : Int).toNat * 1)).toNat * 13 + 0 + 1 + 1)))) ∧ ((nodesD ns)[(nAt (is l) (((k : Nat) : Int).toNat * 1)).toNat * 13 + 0 + 1 + 1 + 1]? = some (DV.int .i64 (nAt (nodesD ns) ((nAt (is l) (((k : Nat) : Int).toNat * 1)).toNat * 13 + 0 + 1 + 1 + 1)))) ∧ ((nodesD ns)[(nAt (is l) (((k : Nat) : Int).toNat * 1)).toNat * 13 + 0 + 1 + 1 + 1 + 1]? = some (DV.int .i64 (nAt (nodesD ns) ((nAt (is l) (((k : Nat) : Int).toNat * 1)).toNat * 13 + 0 + 1 + 1 + 1 + 1)))) ∧ ((nodesD ns)[(nAt (is l) (((k : Nat) : Int).toNat * 1)).toNat * 13 + 0 + 1 + 1 + 1 + 1 + 1]? = some (DV.int .i64 (nAt (nodesD ns) ((nAt (is l) (((k : Nat) : Int).toNat * 1)).toNat * 13 + 0 + 1 + 1 + 1 + 1 + 1)))) ∧ ((nodesD ns)[(nAt (is l) (((k : Nat) : Int).toNat * 1)).toNat * 13 + 0 + 1 + 1 + 1 + 1 + 1 + 1]? = some (DV.int .i64 (nAt (nodesD ns) ((nAt (is l) (((k : Nat) : Int).toNat * 1)).toNat * 13 + 0 + 1 + 1 + 1 + 1 + 1 + 1)))) ∧ ((nodesD ns)[(nAt (is l) (((k : Nat) : Int).toNat * 1)).toNat * 13 + 0 + 1 + 1 + 1 + 1 + 1 + 1 + 1]? = some (DV.int .u16 (nAt (nodesD ns) ((nAt (is l) (((k : Nat) : Int).toNat * 1)).toNat * 13 + 0 + 1 + 1 + 1 + 1 + 1 + 1 + 1)))) ∧ ((nodesD ns)[(nAt (is l) (((k : Nat) : Int).toNat * 1)).toNat * 13 + 0 + 1 + 1 + 1 + 1 + 1 + 1 + 1 + 1]? = some (DV.int .i64 (nAt (nodesD ns) ((nAt (is l) (((k : Nat) : Int).toNat * 1)).toNat * 13 + 0 + 1 + 1 + 1 + 1 + 1 + 1 + 1 + 1)))) ∧ ((nodesD ns)[(nAt (is l) (((k : Nat) : Int).toNat * 1)).toNat * 13 + 0 + 1 + 1 + 1 + 1 + 1 + 1 + 1 + 1 + 1]? = some (DV.int .i64 (nAt (nodesD ns) ((nAt (is l) (((k : Nat) : Int).toNat * 1)).toNat * 13 + 0 + 1 + 1 + 1 + 1 + 1 + 1 + 1 + 1 + 1)))) ∧ ((nodesD ns)[(nAt (is l) (((k : Nat) : Int).toNat * 1)).toNat * 13 + 0 + 1 + 1 + 1 + 1 + 1 + 1 + 1 + 1 + 1 + 1]? = some (DV.bool (bAt (nodesD ns) ((nAt (is l) (((k : Nat) : Int).toNat * 1)).toNat * 13 + 0 + 1 + 1 + 1 + 1 + 1 + 1 + 1 + 1 + 1 + 1)))) ∧ ((nodesD ns)[(nAt (is l) (((k : Nat) : Int).toNat * 1)).toNat * 13 + 0 + 1 + 1 + 1 + 1 + 1 + 1 + 1 + 1 + 1 + 1 + 1]? = some (DV.bool (bAt (nodesD ns) ((nAt (is l) (((k : Nat) : Int).toNat * 1)).toNat * 13 + 0 + 1 + 1 + 1 + 1 + 1 + 1 + 1 + 1 + 1 + 1 + 1)))) ∧ True) ∧ True ∧ (appVc 12 88 ((q ++ emN ns (l.take k)).length) 1 (ops (q ++ emN ns (l.take k))) ([DV.int .i64 (nAt (nodesD ns) ((nAt (is l) (((k : Nat) : Int).toNat * 1)).toNat * 13 + 0)), DV.int .i64 (nAt (nodesD ns) ((nAt (is l) (((k : Nat) : Int).toNat * 1)).toNat * 13 + 0 + 1)), DV.int .i64 (nAt (nodesD ns) ((nAt (is l) (((k : Nat) : Int).toNat * 1)).toNat * 13 + 0 + 1 + 1)), DV.int .i64 (nAt (nodesD ns) ((nAt (is l) (((k : Nat) : Int).toNat * 1)).toNat * 13 + 0 + 1 + 1 + 1)), DV.int .i64 (nAt (nodesD ns) ((nAt (is l) (((k : Nat) : Int).toNat * 1)).toNat * 13 + 0 + 1 + 1 + 1 + 1)), DV.int .i64 (nAt (nodesD ns) ((nAt (is l) (((k : Nat) : Int).toNat * 1)).toNat * 13 + 0 + 1 + 1 + 1 + 1 + 1)), DV.int .i64 (nAt (nodesD ns) ((nAt (is l) (((k : Nat) : Int).toNat * 1)).toNat * 13 + 0 + 1 + 1 + 1 + 1 + 1 + 1)), DV.int .u16 (nAt (nodesD ns) ((nAt (is l) (((k : Nat) : Int).toNat * 1)).toNat * 13 + 0 + 1 + 1 + 1 + 1 + 1 + 1 + 1)), DV.int .i64 (nAt (nodesD ns) ((nAt (is l) (((k : Nat) : Int).toNat * 1)).toNat * 13 + 0 + 1 + 1 + 1 + 1 + 1 + 1 + 1 + 1)), DV.int .i64 (nAt (nodesD ns) ((nAt (is l) (((k : Nat) : Int).toNat * 1)).toNat * 13 + 0 + 1 + 1 + 1 + 1 + 1 + 1 + 1 + 1 + 1)), DV.bool (bAt (nodesD ns) ((nAt (is l) (((k : Nat) : Int).toNat * 1)).toNat * 13 + 0 + 1 + 1 + 1 + 1 + 1 + 1 + 1 + 1 + 1 + 1)), DV.bool (bAt (nodesD ns) ((nAt (is l) (((k : Nat) : Int).toNat * 1)).toNat * 13 + 0 + 1 + 1 + 1 + 1 + 1 + 1 + 1 + 1 + 1 + 1 + 1))])) ∧ True ∧ True ∧ True ∧ True ∧ (zz4 k) ∧ True ∧ True ∧ (((nodesD ns)[(nAt (is l) (((k : Nat) : Int).toNat * 1)).toNat * 13 + 0 + 0]? = some (DV.int .i64 (nAt (nodesD ns) ((nAt (is l) (((k : Nat) : Int).toNat * 1)).toNat * 13 + 0 + 0)))) ∧ True) ∧ True ∧ ((((nAt (nodesD ns) ((nAt (is l) (((k : Nat) : Int).toNat * 1)).toNat * 13 + 0 + 0)) == (2 : Int)) = true → True ∧ True ∧ True ∧ True ∧ (zz4 k) ∧ True ∧ (((nodesD ns)[(nAt (is l) (((k : Nat) : Int).toNat * 1)).toNat * 13 + 12]? = some (DV.sl (lAt (nodesD ns) ((nAt (is l) (((k : Nat) : Int).toNat * 1)).toNat * 13 + 12)) (cAt (nodesD ns) ((nAt (is l) (((k : Nat) : Int).toNat * 1)).toNat * 13 + 12)))) ∧ True) ∧ True ∧ (AnsG Try.prog 22 0 [AV.agg [Cl.d (DV.sl ns.length (nodesD ns)), Cl.d (DV.sl rs.length (is rs))], AV.one (Cl.d (DV.sl (lAt (nodesD ns) ((nAt (is l) (((k : Nat) : Int).toNat * 1)).toNat * 13 + 12)) (cAt (nodesD ns) ((nAt (is l) (((k : Nat) : Int).toNat * 1)).toNat * 13 + 12)))), AV.one (Cl.ref 0 (((q ++ emN ns (l.take k)).length) + 1))] [Bx.row 35 12 ((ops (q ++ emN ns (l.take k))) ++ ([DV.int .i64 (nAt (nodesD ns) ((nAt (is l) (((k : Nat) : Int).toNat * 1)).toNat * 13 + 0)), DV.int .i64 (nAt (nodesD ns) ((nAt (is l) (((k : Nat) : Int).toNat * 1)).toNat * 13 + 0 + 1)), DV.int .i64 (nAt (nodesD ns) ((nAt (is l) (((k : Nat) : Int).toNat * 1)).toNat * 13 + 0 + 1 + 1)), DV.int .i64 (nAt (nodesD ns) ((nAt (is l) (((k : Nat) : Int).toNat * 1)).toNat * 13 + 0 + 1 + 1 + 1)), DV.int .i64 (nAt (nodesD ns) ((nAt (is l) (((k : Nat) : Int).toNat * 1)).toNat * 13 + 0 + 1 + 1 + 1 + 1)), DV.int .i64 (nAt (nodesD ns) ((nAt (is l) (((k : Nat) : Int).toNat * 1)).toNat * 13 + 0 + 1 + 1 + 1 + 1 + 1)), DV.int .i64 (nAt (nodesD ns) ((nAt (is l) (((k : Nat) : Int).toNat * 1)).toNat * 13 + 0 + 1 + 1 + 1 + 1 + 1 + 1)), DV.int .u16 (nAt (nodesD ns) ((nAt (is l) (((k : Nat) : Int).toNat * 1)).toNat * 13 + 0 + 1 + 1 + 1 + 1 + 1 + 1 + 1)), DV.int .i64 (nAt (nodesD ns) ((nAt (is l) (((k : Nat) : Int).toNat * 1)).toNat * 13 + 0 + 1 + 1 + 1 + 1 + 1 + 1 + 1 + 1)), DV.int .i64 (nAt (nodesD ns) ((nAt (is l) (((k : Nat) : Int).toNat * 1)).toNat * 13 + 0 + 1 + 1 + 1 + 1 + 1 + 1 + 1 + 1 + 1)), DV.bool (bAt (nodesD ns) ((nAt (is l) (((k : Nat) : Int).toNat * 1)).toNat * 13 + 0 + 1 + 1 + 1 + 1 + 1 + 1 + 1 + 1 + 1 + 1)), DV.bool (bAt (nodesD ns) ((nAt (is l) (((k : Nat) : Int).toNat * 1)).toNat * 13 + 0 + 1 + 1 + 1 + 1 + 1 + 1 + 1 + 1 + 1 + 1 + 1))]))] ⟨AV.one (Cl.ref 0 ((toOps (((ops (q ++ emN ns (l.take k))) ++ ([DV.int .i64 (nAt (nodesD ns) ((nAt (is l) (((k : Nat) : Int).toNat * 1)).toNat * 13 + 0)), DV.int .i64 (nAt (nodesD ns) ((nAt (is l) (((k : Nat) : Int).toNat * 1)).toNat * 13 + 0 + 1)), DV.int .i64 (nAt (nodesD ns) ((nAt (is l) (((k : Nat) : Int).toNat * 1)).toNat * 13 + 0 + 1 + 1)), DV.int .i64 (nAt (nodesD ns) ((nAt (is l) (((k : Nat) : Int).toNat * 1)).toNat * 13 + 0 + 1 + 1 + 1)), DV.int .i64 (nAt (nodesD ns) ((nAt (is l) (((k : Nat) : Int).toNat * 1)).toNat * 13 + 0 + 1 + 1 + 1 + 1)), DV.int .i64 (nAt (nodesD ns) ((nAt (is l) (((k : Nat) : Int).toNat * 1)).toNat * 13 + 0 + 1 + 1 + 1 + 1 + 1)), DV.int .i64 (nAt (nodesD ns) ((nAt (is l) (((k : Nat) : Int).toNat * 1)).toNat * 13 + 0 + 1 + 1 + 1 + 1 + 1 + 1)), DV.int .u16 (nAt (nodesD ns) ((nAt (is l) (((k : Nat) : Int).toNat * 1)).toNat * 13 + 0 + 1 + 1 + 1 + 1 + 1 + 1 + 1)), DV.int .i64 (nAt (nodesD ns) ((nAt (is l) (((k : Nat) : Int).toNat * 1)).toNat * 13 + 0 + 1 + 1 + 1 + 1 + 1 + 1 + 1 + 1)), DV.int .i64 (nAt (nodesD ns) ((nAt (is l) (((k : Nat) : Int).toNat * 1)).toNat * 13 + 0 + 1 + 1 + 1 + 1 + 1 + 1 + 1 + 1 + 1)), DV.bool (bAt (nodesD ns) ((nAt (is l) (((k : Nat) : Int).toNat * 1)).toNat * 13 + 0 + 1 + 1 + 1 + 1 + 1 + 1 + 1 + 1 + 1 + 1)), DV.bool (bAt (nodesD ns) ((nAt (is l) (((k : Nat) : Int).toNat * 1)).toNat * 13 + 0 + 1 + 1 + 1 + 1 + 1 + 1 + 1 + 1 + 1 + 1 + 1))]))) ++ emN (toNodes ((nodesD ns))) (ints ((cAt (nodesD ns) ((nAt (is l) (((k : Nat) : Int).toNat * 1)).toNat * 13 + 12))))).length)), [Bx.row 35 12 (ops (toOps (((ops (q ++ emN ns (l.take k))) ++ ([DV.int .i64 (nAt (nodesD ns) ((nAt (is l) (((k : Nat) : Int).toNat * 1)).toNat * 13 + 0)), DV.int .i64 (nAt (nodesD ns) ((nAt (is l) (((k : Nat) : Int).toNat * 1)).toNat * 13 + 0 + 1)), DV.int .i64 (nAt (nodesD ns) ((nAt (is l) (((k : Nat) : Int).toNat * 1)).toNat * 13 + 0 + 1 + 1)), DV.int .i64 (nAt (nodesD ns) ((nAt (is l) (((k : Nat) : Int).toNat * 1)).toNat * 13 + 0 + 1 + 1 + 1)), DV.int .i64 (nAt (nodesD ns) ((nAt (is l) (((k : Nat) : Int).toNat * 1)).toNat * 13 + 0 + 1 + 1 + 1 + 1)), DV.int .i64 (nAt (nodesD ns) ((nAt (is l) (((k : Nat) : Int).toNat * 1)).toNat * 13 + 0 + 1 + 1 + 1 + 1 + 1)), DV.int .i64 (nAt (nodesD ns) ((nAt (is l) (((k : Nat) : Int).toNat * 1)).toNat * 13 + 0 + 1 + 1 + 1 + 1 + 1 + 1)), DV.int .u16 (nAt (nodesD ns) ((nAt (is l) (((k : Nat) : Int).toNat * 1)).toNat * 13 + 0 + 1 + 1 + 1 + 1 + 1 + 1 + 1)), DV.int .i64 (nAt (nodesD ns) ((nAt (is l) (((k : Nat) : Int).toNat * 1)).toNat * 13 + 0 + 1 + 1 + 1 + 1 + 1 + 1 + 1 + 1)), DV.int .i64 (nAt (nodesD ns) ((nAt (is l) (((k : Nat) : Int).toNat * 1)).toNat * 13 + 0 + 1 + 1 + 1 + 1 + 1 + 1 + 1 + 1 + 1)), DV.bool (bAt (nodesD ns) ((nAt (is l) (((k : Nat) : Int).toNat * 1)).toNat * 13 + 0 + 1 + 1 + 1 + 1 + 1 + 1 + 1 + 1 + 1 + 1)), DV.bool (bAt (nodesD ns) ((nAt (is l) (((k : Nat) : Int).toNat * 1)).toNat * 13 + 0 + 1 + 1 + 1 + 1 + 1 + 1 + 1 + 1 + 1 + 1 + 1))]))) ++ emN (toNodes ((nodesD ns))) (ints ((cAt (nodesD ns) ((nAt (is l) (((k : Nat) : Int).toNat * 1)).toNat * 13 + 12))))))], false⟩) ∧ True ∧ True ∧ (appVc 12 88 ((toOps (((ops (q ++ emN ns (l.take k))) ++ ([DV.int .i64 (nAt (nodesD ns) ((nAt (is l) (((k : Nat) : Int).toNat * 1)).toNat * 13 + 0)), DV.int .i64 (nAt (nodesD ns) ((nAt (is l) (((k : Nat) : Int).toNat * 1)).toNat * 13 + 0 + 1)), DV.int .i64 (nAt (nodesD ns) ((nAt (is l) (((k : Nat) : Int).toNat * 1)).toNat * 13 + 0 + 1 + 1)), DV.int .i64 (nAt (nodesD ns) ((nAt (is l) (((k : Nat) : Int).toNat * 1)).toNat * 13 + 0 + 1 + 1 + 1)), DV.int .i64 (nAt (nodesD ns) ((nAt (is l) (((k : Nat) : Int).toNat * 1)).toNat * 13 + 0 + 1 + 1 + 1 + 1)), DV.int .i64 (nAt (nodesD ns) ((nAt (is l) (((k : Nat) : Int).toNat * 1)).toNat * 13 + 0 + 1 + 1 + 1 + 1 + 1)), DV.int .i64 (nAt (nodesD ns) ((nAt (is l) (((k : Nat) : Int).toNat * 1)).toNat * 13 + 0 + 1 + 1 + 1 + 1 + 1 + 1)), DV.int .u16 (nAt (nodesD ns) ((nAt (is l) (((k : Nat) : Int).toNat * 1)).toNat * 13 + 0 + 1 + 1 + 1 + 1 + 1 + 1 + 1)), DV.int .i64 (nAt (nodesD ns) ((nAt (is l) (((k : Nat) : Int).toNat * 1)).toNat * 13 + 0 + 1 + 1 + 1 + 1 + 1 + 1 + 1 + 1)), DV.int .i64 (nAt (nodesD ns) ((nAt (is l) (((k : Nat) : Int).toNat * 1)).toNat * 13 + 0 + 1 + 1 + 1 + 1 + 1 + 1 + 1 + 1 + 1)), DV.bool (bAt (nodesD ns) ((nAt (is l) (((k : Nat) : Int).toNat * 1)).toNat * 13 + 0 + 1 + 1 + 1 + 1 + 1 + 1 + 1 + 1 + 1 + 1)), DV.bool (bAt (nodesD ns) ((nAt (is l) (((k : Nat) : Int).toNat * 1)).toNat * 13 + 0 + 1 + 1 + 1 + 1 + 1 + 1 + 1 + 1 + 1 + 1 + 1))]))) ++ emN (toNodes ((nodesD ns))) (ints ((cAt (nodesD ns) ((nAt (is l) (((k : Nat) : Int).toNat * 1)).toNat * 13 + 12))))).length) 1 (ops (toOps (((ops (q ++ emN ns (l.take k))) ++ ([DV.int .i64 (nAt (nodesD ns) ((nAt (is l) (((k : Nat) : Int).toNat * 1)).toNat * 13 + 0)), DV.int .i64 (nAt (nodesD ns) ((nAt (is l) (((k : Nat) : Int).toNat * 1)).toNat * 13 + 0 + 1)), DV.int .i64 (nAt (nodesD ns) ((nAt (is l) (((k : Nat) : Int).toNat * 1)).toNat * 13 + 0 + 1 + 1)), DV.int .i64 (nAt (nodesD ns) ((nAt (is l) (((k : Nat) : Int).toNat * 1)).toNat * 13 + 0 + 1 + 1 + 1)), DV.int .i64 (nAt (nodesD ns) ((nAt (is l) (((k : Nat) : Int).toNat * 1)).toNat * 13 + 0 + 1 + 1 + 1 + 1)), DV.int .i64 (nAt (nodesD ns) ((nAt (is l) (((k : Nat) : Int).toNat * 1)).toNat * 13 + 0 + 1 + 1 + 1 + 1 + 1)), DV.int .i64 (nAt (nodesD ns) ((nAt (is l) (((k : Nat) : Int).toNat * 1)).toNat * 13 + 0 + 1 + 1 + 1 + 1 + 1 + 1)), DV.int .u16 (nAt (nodesD ns) ((nAt (is l) (((k : Nat) : Int).toNat * 1)).toNat * 13 + 0 + 1 + 1 + 1 + 1 + 1 + 1 + 1)), DV.int .i64 (nAt (nodesD ns) ((nAt (is l) (((k : Nat) : Int).toNat * 1)).toNat * 13 + 0 + 1 + 1 + 1 + 1 + 1 + 1 + 1 + 1)), DV.int .i64 (nAt (nodesD ns) ((nAt (is l) (((k : Nat) : Int).toNat * 1)).toNat * 13 + 0 + 1 + 1 + 1 + 1 + 1 + 1 + 1 + 1 + 1)), DV.bool (bAt (nodesD ns) ((nAt (is l) (((k : Nat) : Int).toNat * 1)).toNat * 13 + 0 + 1 + 1 + 1 + 1 + 1 + 1 + 1 + 1 + 1 + 1)), DV.bool (bAt (nodesD ns) ((nAt (is l) (((k : Nat) : Int).toNat * 1)).toNat * 13 + 0 + 1 + 1 + 1 + 1 + 1 + 1 + 1 + 1 + 1 + 1 + 1))]))) ++ emN (toNodes ((nodesD ns))) (ints ((cAt (nodesD ns) ((nAt (is l) (((k : Nat) : Int).toNat * 1)).toNat * 13 + 12)))))) ([DV.int .i64 3, DV.int .i64 0, DV.int .i64 0, DV.int .i64 0, DV.int .i64 0, DV.int .i64 0, DV.int .i64 0, DV.int .u16 0, DV.int .i64 0, DV.int .i64 0, DV.bool false, DV.bool false])) ∧ True ∧ (true = true) ∧ True ∧ True ∧ ∃ k' : Nat, (k' ≤ l.length) ∧ (zz5 k k') ∧ (((((toOps (((ops (q ++ emN ns (l.take k))) ++ ([DV.int .i64 (nAt (nodesD ns) ((nAt (is l) (((k : Nat) : Int).toNat * 1)).toNat * 13 + 0)), DV.int .i64 (nAt (nodesD ns) ((nAt (is l) (((k : Nat) : Int).toNat * 1)).toNat * 13 + 0 + 1)), DV.int .i64 (nAt (nodesD ns) ((nAt (is l) (((k : Nat) : Int).toNat * 1)).toNat * 13 + 0 + 1 + 1)), DV.int .i64 (nAt (nodesD ns) ((nAt (is l) (((k : Nat) : Int).toNat * 1)).toNat * 13 + 0 + 1 + 1 + 1)), DV.int .i64 (nAt (nodesD ns) ((nAt (is l) (((k : Nat) : Int).toNat * 1)).toNat * 13 + 0 + 1 + 1 + 1 + 1)), DV.int .i64 (nAt (nodesD ns) ((nAt (is l) (((k : Nat) : Int).toNat * 1)).toNat * 13 + 0 + 1 + 1 + 1 + 1 + 1)), DV.int .i64 (nAt (nodesD ns) ((nAt (is l) (((k : Nat) : Int).toNat * 1)).toNat * 13 + 0 + 1 + 1 + 1 + 1 + 1 + 1)), DV.int .u16 (nAt (nodesD ns) ((nAt (is l) (((k : Nat) : Int).toNat * 1)).toNat * 13 + 0 + 1 + 1 + 1 + 1 + 1 + 1 + 1)), DV.int .i64 (nAt (nodesD ns) ((nAt (is l) (((k : Nat) : Int).toNat * 1)).toNat * 13 + 0 + 1 + 1 + 1 + 1 + 1 + 1 + 1 + 1)), DV.int .i64 (nAt (nodesD ns) ((nAt (is l) (((k : Nat) : Int).toNat * 1)).toNat * 13 + 0 + 1 + 1 + 1 + 1 + 1 + 1 + 1 + 1 + 1)), DV.bool (bAt (nodesD ns) ((nAt (is l) (((k : Nat) : Int).toNat * 1)).toNat * 13 + 0 + 1 + 1 + 1 + 1 + 1 + 1 + 1 + 1 + 1 + 1)), DV.bool (bAt (nodesD ns) ((nAt (is l) (((k : Nat) : Int).toNat * 1)).toNat * 13 + 0 + 1 + 1 + 1 + 1 + 1 + 1 + 1 + 1 + 1 + 1 + 1))]))) ++ emN (toNodes ((nodesD ns))) (ints ((cAt (nodesD ns) ((nAt (is l) (((k : Nat) : Int).toNat * 1)).toNat * 13 + 12))))).length) + 1 = (q ++ emN ns (l.take k')).length) ∧ (0 = 0) ∧ zz0 ∧ zz1 ∧ (zz6 k k') ∧ True) ∧ (((ops (toOps (((ops (q ++ emN ns (l.take k))) ++ ([DV.int .i64 (nAt (nodesD ns) ((nAt (is l) (((k : Nat) : Int).toNat * 1)).toNat * 13 + 0)), DV.int .i64 (nAt (nodesD ns) ((nAt (is l) (((k : Nat) : Int).toNat * 1)).toNat * 13 + 0 + 1)), DV.int .i64 (nAt (nodesD ns) ((nAt (is l) (((k : Nat) : Int).toNat * 1)).toNat * 13 + 0 + 1 + 1)), DV.int .i64 (nAt (nodesD ns) ((nAt (is l) (((k : Nat) : Int).toNat * 1)).toNat * 13 + 0 + 1 + 1 + 1)), DV.int .i64 (nAt (nodesD ns) ((nAt (is l) (((k : Nat) : Int).toNat * 1)).toNat * 13 + 0 + 1 + 1 + 1 + 1)), DV.int .i64 (nAt (nodesD ns) ((nAt (is l) (((k : Nat) : Int).toNat * 1)).toNat * 13 + 0 + 1 + 1 + 1 + 1 + 1)), DV.int .i64 (nAt (nodesD ns) ((nAt (is l) (((k : Nat) : Int).toNat * 1)).toNat * 13 + 0 + 1 + 1 + 1 + 1 + 1 + 1)), DV.int .u16 (nAt (nodesD ns) ((nAt (is l) (((k : Nat) : Int).toNat * 1)).toNat * 13 + 0 + 1 + 1 + 1 + 1 + 1 + 1 + 1)), DV.int .i64 (nAt (nodesD ns) ((nAt (is l) (((k : Nat) : Int).toNat * 1)).toNat * 13 + 0 + 1 + 1 + 1 + 1 + 1 + 1 + 1 + 1)), DV.int .i64 (nAt (nodesD ns) ((nAt (is l) (((k : Nat) : Int).toNat * 1)).toNat * 13 + 0 + 1 + 1 + 1 + 1 + 1 + 1 + 1 + 1 + 1)), DV.bool (bAt (nodesD ns) ((nAt (is l) (((k : Nat) : Int).toNat * 1)).toNat * 13 + 0 + 1 + 1 + 1 + 1 + 1 + 1 + 1 + 1 + 1 + 1)), DV.bool (bAt (nodesD ns) ((nAt (is l) (((k : Nat) : Int).toNat * 1)).toNat * 13 + 0 + 1 + 1 + 1 + 1 + 1 + 1 + 1 + 1 + 1 + 1 + 1))]))) ++ emN (toNodes ((nodesD ns))) (ints ((cAt (nodesD ns) ((nAt (is l) (((k : Nat) : Int).toNat * 1)).toNat * 13 + 12)))))) ++ ([DV.int .i64 3, DV.int .i64 0, DV.int .i64 0, DV.int .i64 0, DV.int .i64 0, DV.int .i64 0, DV.int .i64 0, DV.int .u16 0, DV.int .i64 0, DV.int .i64 0, DV.bool false, DV.bool false]) = ops (q ++ emN ns (l.take k'))) ∧ zz3 ∧ True))) ∧ (((nAt (nodesD ns) ((nAt (is l) (((k : Nat) : Int).toNat * 1)).toNat * 13 + 0 + 0)) == (2 : Int)) = false → True ∧ True ∧ ∃ k' : Nat, (k' ≤ l.length) ∧ (zz5 k k') ∧ (((((q ++ emN ns (l.take k)).length) + 1 = (q ++ emN ns (l.take k')).length) ∧ (0 = 0) ∧ zz0 ∧ zz1 ∧ (zz6 k k') ∧ True) ∧ (((ops (q ++ emN ns (l.take k))) ++ ([DV.int .i64 (nAt (nodesD ns) ((nAt (is l) (((k : Nat) : Int).toNat * 1)).toNat * 13 + 0)), DV.int .i64 (nAt (nodesD ns) ((nAt (is l) (((k : Nat) : Int).toNat * 1)).toNat * 13 + 0 + 1)), DV.int .i64 (nAt (nodesD ns) ((nAt (is l) (((k : Nat) : Int).toNat * 1)).toNat * 13 + 0 + 1 + 1)), DV.int .i64 (nAt (nodesD ns) ((nAt (is l) (((k : Nat) : Int).toNat * 1)).toNat * 13 + 0 + 1 + 1 + 1)), DV.int .i64 (nAt (nodesD ns) ((nAt (is l) (((k : Nat) : Int).toNat * 1)).toNat * 13 + 0 + 1 + 1 + 1 + 1)), DV.int .i64 (nAt (nodesD ns) ((nAt (is l) (((k : Nat) : Int).toNat * 1)).toNat * 13 + 0 + 1 + 1 + 1 + 1 + 1)), DV.int .i64 (nAt (nodesD ns) ((nAt (is l) (((k : Nat) : Int).toNat * 1)).toNat * 13 + 0 + 1 + 1 + 1 + 1 + 1 + 1)), DV.int .u16 (nAt (nodesD ns) ((nAt (is l) (((k : Nat) : Int).toNat * 1)).toNat * 13 + 0 + 1 + 1 + 1 + 1 + 1 + 1 + 1)), DV.int .i64 (nAt (nodesD ns) ((nAt (is l) (((k : Nat) : Int).toNat * 1)).toNat * 13 + 0 + 1 + 1 + 1 + 1 + 1 + 1 + 1 + 1)), DV.int .i64 (nAt (nodesD ns) ((nAt (is l) (((k : Nat) : Int).toNat * 1)).toNat * 13 + 0 + 1 + 1 + 1 + 1 + 1 + 1 + 1 + 1 + 1)), DV.bool (bAt (nodesD ns) ((nAt (is l) (((k : Nat) : Int).toNat * 1)).toNat * 13 + 0 + 1 + 1 + 1 + 1 + 1 + 1 + 1 + 1 + 1 + 1)), DV.bool (bAt (nodesD ns) ((nAt (is l) (((k : Nat) : Int).toNat * 1)).toNat * 13 + 0 + 1 + 1 + 1 + 1 + 1 + 1 + 1 + 1 + 1 + 1 + 1))]) = ops (q ++ emN ns (l.take k'))) ∧ zz3 ∧ True))))) ∧ ((decide (((k : Nat) : Int) < ((l.length : Nat) : Int))) = false → True ∧ True ∧ ((((q ++ emN ns (l.take k)).length = (toOps (ops q) ++ emN (toNodes (nodesD ns)) (ints (is l))).length) ∧ True) ∧ ((ops (q ++ emN ns (l.take k)) = ops (toOps (ops q) ++ emN (toNodes (nodesD ns)) (ints (is l)))) ∧ True)) ∧ freshOK ⟨AV.one (Cl.ref 0 ((toOps (ops q) ++ emN (toNodes (nodesD ns)) (ints (is l))).length)), [Bx.row 35 12 (ops (toOps (ops q) ++ emN (toNodes (nodesD ns)) (ints (is l))))], false⟩)))) := by kernel_rfl
theorem tree_emit_ans (ns : Nodes) (rs : List Int) (l : List Int) (q : List Oq) (d : Nat) (hl : ns.length ≤ 100000) (hll : l.length ≤ 100000) (hd : l ≠ [] → d + 1 ≤ ns.length) (ih : ∀ (k : Nat) (h : k < l.length) (p : Oq × List Int), ns[l[k].toNat]? = some p → p.1.kind = 2 → ∀ q : List Oq, q.length + (emN ns p.2).length ≤ 100000 → EmOK ns rs p.2 q) (hD : Deep ns (d + 1) l) (hb : q.length + (emN ns l).length ≤ 100000) : AnsG Try.prog 22 0 [AV.agg [Cl.d (DV.sl ns.length (nodesD ns)), Cl.d (DV.sl rs.length (is rs))], AV.one (Cl.d (DV.sl l.length (is l))), AV.one (Cl.ref 0 q.length)] [Bx.row 35 12 (ops q)] ⟨AV.one (Cl.ref 0 ((toOps (ops q) ++ emN (toNodes (nodesD ns)) (ints (is l))).length)), [Bx.row 35 12 (ops (toOps (ops q) ++ emN (toNodes (nodesD ns)) (ints (is l))))], false⟩ :=
  ansG_of_vcg (Γ := gamTm) (tree_emit_ann ns rs l q) mixed_ Try.func22 rfl (Nat.le_of_ble_eq_true rfl) rfl fun hwf hbx => by
    refine Eq.mpr (tree_emit_vc ns rs l q) ?_
    simp only [true_and, and_true, RV.d.injEq, RV.agg.injEq, RV.tup.injEq, DV.bool.injEq, DV.int.injEq, DV.sl.injEq, List.cons.injEq, forall_const, Bool.not_false, Bool.not_true, Bool.not_eq_true', Bool.not_eq_false', decide_eq_true_eq, decide_eq_false_iff_not, Int.toNat_natCast]
    have hM : ∀ n : Nat, n ≤ 200000 → n ≤ maxLen := fun n h => by unfold maxLen; omega
    clear hwf hbx
    simp only [toNodes_nodesD, ints_is, toOps_ops]
    refine ⟨⟨0, Nat.zero_le _, ⟨by simp [emN_nil], rfl⟩, by simp [emN_nil]⟩, fun k hk => ⟨fun hlt => ?_, fun hge => ?_⟩⟩
    · have hkl : k < l.length := by omega
      obtain ⟨q1, q2⟩ := is_rd hkl
      obtain ⟨hx0, p, hp, hdp⟩ := hD l[k] (List.getElem_mem hkl)
      have hd := hd (List.ne_nil_of_length_pos (by omega))
      have ih := ih k hkl p hp
      have ht := emN_take hD hd hkl hp
      have hmo := emN_mono (ns := ns) (l := l) k
      have hmo2 := emN_mono (ns := ns) (l := l) (k + 1)
      generalize l[k] = a at *
      obtain ⟨m, rfl⟩ : ∃ m : Nat, a = m := ⟨a.toNat, by omega⟩
      rw [Int.toNat_natCast] at hp
      obtain ⟨hm, hpm⟩ := List.getElem?_eq_some_iff.1 hp
      have rd := nodes_rd hm
      have at_ := nodes_at hm
      have e12 := kid_rd' hm
      have l12 := kid_l hm
      have c12 := kid_c hm
      have w1 : IntKind.wrap .i64 ((k : Int) + 1) = ((k + 1 : Nat) : Int) := by rw [IntWalk.i64_in _ ⟨by omega, by omega⟩]; omega
      have hnd : m * 13 < (nodesD ns).length := by rw [nodesD_len]; omega
      simp only [Nat.mul_one, Nat.add_zero, q2, w1, Int.toNat_natCast, at_, l12, c12, hpm] at *
      rw [ht] at hmo2
      have hcell : ∀ X : List Oq, ops X ++ [DV.int .i64 p.1.kind, DV.int .i64 p.1.image, DV.int .i64 p.1.x, DV.int .i64 p.1.y, DV.int .i64 p.1.mask, DV.int .i64 p.1.mx, DV.int .i64 p.1.my, DV.int .u16 p.1.opac, DV.int .i64 p.1.oper, DV.int .i64 p.1.mode, DV.bool p.1.iso, DV.bool p.1.kno] = ops (X ++ [p.1]) := fun X => by simp [ops, Oq.cells]
      have hpc : ∀ X : List Oq, ops X ++ [DV.int .i64 3, DV.int .i64 0, DV.int .i64 0, DV.int .i64 0, DV.int .i64 0, DV.int .i64 0, DV.int .i64 0, DV.int .u16 0, DV.int .i64 0, DV.int .i64 0, DV.bool false, DV.bool false] = ops (X ++ [popO]) := fun X => by simp [ops, Oq.cells, popO]
      obtain ⟨p0, p1, p2, p3, p4, p5, p6, p7, p8, p9, p10, p11, p12⟩ := rd
      have hmoL := hmo2
      simp only [List.length_append] at hmoL
      simp only [hcell, hpc, toOps_ops, ints_is]
      generalize hX : q ++ emN ns (l.take k) = X at *
      have hXl : X.length = q.length + (emN ns (l.take k)).length := by rw [← hX, List.length_append]
      have h1p : 1 ≤ (em1 ns p).length := by unfold em1; simp
      refine ⟨⟨by omega, by omega, by rw [is_length]; omega⟩, q1, ⟨by omega, by omega, hnd⟩, ⟨p0, p1, p2, p3, p4, p5, p6, p7, p8, p9, p10, p11⟩, ⟨by rw [ops_length], rfl, hM _ (by omega), by omega⟩, ⟨by omega, by omega, hnd⟩, p0, fun h2 => ?_, fun h2 => ?_⟩
      · have h2 : p.1.kind = 2 := by simpa using h2
        have hem : em1 ns p = p.1 :: (emN ns p.2 ++ [popO]) := by unfold em1; rw [if_pos h2]
        rw [hem] at ht hmoL
        simp only [List.length_cons, List.length_append, List.length_nil] at hmoL
        have hX1 : (X ++ [p.1]).length = X.length + 1 := by simp
        have hi := ih h2 (X ++ [p.1]) (by rw [hX1]; omega)
        unfold EmOK at hi
        rw [hX1] at hi
        have hl2 : (X ++ [p.1] ++ emN ns p.2).length = X.length + 1 + (emN ns p.2).length := by simp; omega
        refine ⟨⟨by omega, by omega, hnd⟩, p12, hi, ⟨by rw [ops_length], rfl, hM _ (by omega), by omega⟩, k + 1, by omega, by omega, ⟨?_, rfl⟩, ?_⟩
        · rw [ht, ← List.append_assoc, hX]
          simp
          omega
        · rw [ht, ← List.append_assoc, hX]
          simp
      · have h2 : ¬ p.1.kind = 2 := by simpa using h2
        have hem : em1 ns p = [p.1] := by unfold em1; rw [if_neg h2]
        rw [hem] at ht
        refine ⟨k + 1, by omega, by omega, ⟨?_, rfl⟩, ?_⟩
        · rw [ht, ← List.append_assoc, hX]
          simp
        · rw [ht, ← List.append_assoc, hX]
    · have hkl : k = l.length := by omega
      subst hkl
      rw [List.take_length]
      exact ⟨⟨rfl, rfl⟩, trivial⟩
end Go.Proofs.Ytaaealkgbklmeaa
/-
  The statements' lists of operations: what they are made of.
-/
namespace Go.Proofs.Ytaaealkgbklmeaa
open Go.RowKit
set_option linter.unusedVariables false
set_option linter.unusedSimpArgs false
theorem genL_len : ∀ (l : List Int) (op : Int), (genL l op).1.length = l.length
  | [], _ => rfl
  | n :: l, op => by simp [genL, genL_len l]
theorem genL_open : ∀ (l : List Int) (op : Int), op - l.length ≤ (genL l op).2 ∧ (genL l op).2 ≤ op + l.length
  | [], op => by simp [genL]
  | n :: l, op => by
    have h := genL_open l (stepL n op)
    have hs : op - 1 ≤ stepL n op ∧ stepL n op ≤ op + 1 := by unfold stepL; split <;> (try split) <;> omega
    simp only [genL, List.length_cons]
    omega
theorem listL_len (l : List Int) (c : Bool) : (listL l c).length ≤ 80 := by
  unfold listL
  have h1 := genL_len (l.take 40) 0
  have h2 := genL_open (l.take 40) 0
  have h3 : (l.take 40).length ≤ 40 := by rw [List.length_take]; omega
  rw [List.length_append, h1]
  split
  · rw [List.length_replicate]; omega
  · simp only [List.length_nil]; omega
theorem opL_pop {n op : Int} (h : (opL n op).kind = 3) : opL n op = popO := by
  have hk : kindL n op = 3 := h
  simp [opL, hk, popO]
/-
  Lists of operations and forests: what is built of the operations of a forest.
-/
def unflOk : Fo → List Fo → Prop
  | f, fs => f.ok ∧ ∀ g ∈ fs, g.ok
/-- operations whose ends are found are those of a forest -/
theorem runE_parse : ∀ (l : List Oq) (i : Nat) (out op : List Int), (∀ o ∈ l, o.kind = 3 → o = popO) → (runE l i out op).2 = 0 → ∃ (f : Fo) (fs : List Fo), unflOk f fs ∧ fs.length = op.length ∧ l = unfl f fs
  | [], i, out, op, hp, h => by
    rw [runE] at h
    split at h
    · rename_i e
      exact ⟨.nil, [], ⟨trivial, fun g hg => by cases hg⟩, by simp [e], rfl⟩
    · cases h
  | o :: l, i, out, op, hp, h => by
    have hp' : ∀ o ∈ l, o.kind = 3 → o = popO := fun o ho => hp o (List.mem_cons_of_mem _ ho)
    rw [runE] at h
    split at h
    · rename_i h1
      obtain ⟨f, fs, hk, hl, e⟩ := runE_parse l _ _ _ hp' h
      exact ⟨.draw o f, fs, ⟨⟨h1, hk.1⟩, hk.2⟩, hl, by rw [unfl_draw, e]⟩
    · split at h
      · rename_i h1 h2
        obtain ⟨f, fs, hk, hl, e⟩ := runE_parse l _ _ _ hp' h
        cases fs with
        | nil => simp at hl
        | cons g fs => exact ⟨.grp o f g, fs, ⟨⟨h2, hk.1, hk.2 g (List.mem_cons_self ..)⟩, fun g' hg => hk.2 g' (List.mem_cons_of_mem _ hg)⟩, by simpa using hl, by rw [unfl_grp, e]; rfl⟩
      · split at h
        · rename_i h1 h2 h3
          split at h
          · cases h
          · rename_i h4
            obtain ⟨f, fs, hk, hl, e⟩ := runE_parse l _ _ _ hp' h
            have hol : 0 < op.length := List.length_pos_iff.2 h4
            refine ⟨.nil, f :: fs, ⟨trivial, fun g hg => ?_⟩, ?_, ?_⟩
            · rcases List.mem_cons.1 hg with rfl | hg
              · exact hk.1
              · exact hk.2 g hg
            · rw [List.length_cons, hl, List.length_dropLast]; omega
            · rw [hp o (List.mem_cons_self ..) h3, e]; rfl
        · cases h
theorem ends_parse {l : List Oq} (hp : ∀ o ∈ l, o.kind = 3 → o = popO) (h : (endsS l).2 = 0) : ∃ f : Fo, f.ok ∧ l = f.flat := by
  obtain ⟨f, fs, hk, hl, e⟩ := runE_parse l 0 _ [] hp h
  have : fs = [] := List.length_eq_zero_iff.1 (by simpa using hl)
  subst this
  exact ⟨f, hk.1, e⟩
theorem opL_in : ∀ (l : List Int) (op : Int), ∀ o ∈ (genL l op).1, ∃ n op', o = opL n op'
  | [], op, o, h => by cases h
  | n :: l, op, o, h => by
    simp only [genL] at h
    rcases List.mem_cons.1 h with rfl | h
    · exact ⟨n, op, rfl⟩
    · exact opL_in l _ o h
theorem listL_pops (l : List Int) (c : Bool) : ∀ o ∈ listL l c, o.kind = 3 → o = popO := fun o ho hk => by
  unfold listL at ho
  rcases List.mem_append.1 ho with ho | ho
  · obtain ⟨n, op, rfl⟩ := opL_in _ _ o ho
    exact opL_pop hk
  · split at ho
    · exact List.eq_of_mem_replicate ho
    · cases ho
/-
  What is built of the operations of a forest, in closed form.
-/
def Fo.cnt : Fo → Nat
  | .nil => 0
  | .draw _ r => r.cnt + 1
  | .grp _ k r => k.cnt + r.cnt + 1
def Fo.rt : Fo → Nat → List Int
  | .nil, _ => []
  | .draw _ r, b => (b : Int) :: r.rt (b + 1)
  | .grp _ k r, b => (b : Int) :: r.rt (b + 1 + k.cnt)
def Fo.nd : Fo → Nat → Nodes
  | .nil, _ => []
  | .draw o r, b => (o, []) :: r.nd (b + 1)
  | .grp o k r, b => (o, k.rt (b + 1)) :: (k.nd (b + 1) ++ r.nd (b + 1 + k.cnt))
theorem Fo.nd_len : ∀ (f : Fo) (b : Nat), (f.nd b).length = f.cnt
  | .nil, b => rfl
  | .draw o r, b => by simp [Fo.nd, Fo.cnt, r.nd_len]
  | .grp o k r, b => by simp [Fo.nd, Fo.cnt, k.nd_len, r.nd_len]
theorem Fo.cnt_le : ∀ f : Fo, f.cnt ≤ f.size
  | .nil => Nat.le_refl _
  | .draw o r => by have := r.cnt_le; simp only [Fo.cnt, Fo.size]; omega
  | .grp o k r => by have := r.cnt_le; have := k.cnt_le; simp only [Fo.cnt, Fo.size]; omega
def kidApp (ns : Nodes) (t : Nat) (l : List Int) : Nodes := match ns[t]? with
  | some p => ns.set t (p.1, p.2 ++ l)
  | none => ns
def underT (z : BT) (ns2 : Nodes) (l : List Int) : BT := match z.os.getLast? with
  | none => ⟨z.ns ++ ns2, z.rs ++ l, z.os⟩
  | some t => ⟨kidApp z.ns t.toNat l ++ ns2, z.rs, z.os⟩
theorem kidApp_len (ns : Nodes) (t : Nat) (l : List Int) : (kidApp ns t l).length = ns.length := by
  unfold kidApp; split <;> simp
theorem underT_len (z : BT) (ns2 : Nodes) (l : List Int) : (underT z ns2 l).ns.length = z.ns.length + ns2.length := by
  unfold underT; split <;> simp [kidApp_len]
theorem underT_os (z : BT) (ns2 : Nodes) (l : List Int) : (underT z ns2 l).os = z.os := by
  unfold underT; split <;> rfl
/-- the innermost open group has a node -/
def BT.fine (z : BT) : Prop := ∀ t, z.os.getLast? = some t → t.toNat < z.ns.length
theorem kidApp_app {ns n2 : Nodes} {t : Nat} (h : t < ns.length) (l : List Int) : kidApp (ns ++ n2) t l = kidApp ns t l ++ n2 := by
  unfold kidApp
  rw [List.getElem?_append_left h, List.getElem?_eq_getElem h]
  simp only
  rw [List.set_append_left _ _ h]
theorem kidApp_two {ns : Nodes} {t : Nat} (h : t < ns.length) (l m : List Int) : kidApp (kidApp ns t l) t m = kidApp ns t (l ++ m) := by
  unfold kidApp
  rw [List.getElem?_eq_getElem h]
  simp only
  rw [List.getElem?_set_self (by simpa using h)]
  simp
theorem underT_two (z : BT) (hz : z.fine) (n1 n2 : Nodes) (l1 l2 : List Int) : underT (underT z n1 l1) n2 l2 = underT z (n1 ++ n2) (l1 ++ l2) := by
  unfold underT
  cases h : z.os.getLast? with
  | none => simp [h]
  | some t =>
    have ht := hz t h
    simp only [h]
    rw [kidApp_app (by rw [kidApp_len]; exact ht), kidApp_two ht, List.append_assoc]
theorem underT_nil (z : BT) (hz : z.fine) : underT z [] [] = z := by
  unfold underT
  cases h : z.os.getLast? with
  | none => simp
  | some t =>
    have ht := hz t h
    simp only [List.append_nil]
    unfold kidApp
    rw [List.getElem?_eq_getElem ht]
    simp only [List.append_nil]
    show (⟨z.ns.set t.toNat z.ns[t.toNat], z.rs, z.os⟩ : BT) = z
    rw [List.set_getElem_self]
theorem underT_fine {z : BT} (hz : z.fine) (n1 : Nodes) (l1 : List Int) : (underT z n1 l1).fine := fun t h => by
  rw [underT_os] at h
  rw [underT_len]
  have := hz t h
  omega
theorem kidAdd_is (ns : Nodes) (t : Nat) (n : Int) : kidAdd ns t n = kidApp ns t [n] := rfl
theorem addT_under {o : Oq} {z : BT} (hz : z.fine) : addT o z = ⟨(underT z [(o, [])] [(z.ns.length : Int)]).ns, (underT z [(o, [])] [(z.ns.length : Int)]).rs, if o.kind = 2 then z.os ++ [(z.ns.length : Int)] else z.os⟩ := by
  unfold addT underT
  cases h : z.os.getLast? with
  | none => rfl
  | some t =>
    simp only
    rw [kidAdd_is, kidApp_app (hz t h)]
theorem runT_flat : ∀ (f : Fo) (z : BT) (m : List Oq), f.ok → z.fine → runT (f.flat ++ m) z = runT m (underT z (f.nd z.ns.length) (f.rt z.ns.length))
  | .nil, z, m, hk, hz => by simp only [Fo.flat, Fo.nd, Fo.rt, List.nil_append]; rw [underT_nil z hz]
  | .draw o r, z, m, hk, hz => by
    simp only [Fo.flat, List.cons_append, runT]
    rw [if_pos (.inl hk.1), addT_under hz, if_neg (by rw [hk.1]; decide)]
    have e : (⟨(underT z [(o, [])] [(z.ns.length : Int)]).ns, (underT z [(o, [])] [(z.ns.length : Int)]).rs, z.os⟩ : BT) = underT z [(o, [])] [(z.ns.length : Int)] := by
      have := underT_os z [(o, [])] [(z.ns.length : Int)]
      rw [← this]
    rw [e, runT_flat r _ m hk.2 (underT_fine hz _ _), underT_len, underT_two z hz]
    rfl
  | .grp o k r, z, m, hk, hz => by
    simp only [Fo.flat, List.cons_append, List.append_assoc, runT]
    rw [if_pos (.inr hk.1), addT_under hz, if_pos hk.1]
    have hl := underT_len z [(o, [])] [(z.ns.length : Int)]
    have hz1 : BT.fine ⟨(underT z [(o, [])] [(z.ns.length : Int)]).ns, (underT z [(o, [])] [(z.ns.length : Int)]).rs, z.os ++ [(z.ns.length : Int)]⟩ := fun t h => by
      simp only [List.getLast?_append, List.getLast?_singleton, Option.some_or, Option.some.injEq] at h
      subst h
      simp only [hl, Int.toNat_natCast, List.length_singleton]
      omega
    rw [runT_flat k _ _ hk.2.1 hz1]
    simp only [hl, List.length_singleton]
    have e2 : underT ⟨(underT z [(o, [])] [(z.ns.length : Int)]).ns, (underT z [(o, [])] [(z.ns.length : Int)]).rs, z.os ++ [(z.ns.length : Int)]⟩ (k.nd (z.ns.length + 1)) (k.rt (z.ns.length + 1)) = ⟨(underT z ((o, k.rt (z.ns.length + 1)) :: k.nd (z.ns.length + 1)) [(z.ns.length : Int)]).ns, (underT z ((o, k.rt (z.ns.length + 1)) :: k.nd (z.ns.length + 1)) [(z.ns.length : Int)]).rs, z.os ++ [(z.ns.length : Int)]⟩ := by
      have key : ∀ (A : Nodes), A.length = z.ns.length → kidApp (A ++ [(o, [])]) z.ns.length (k.rt (z.ns.length + 1)) = A ++ [(o, k.rt (z.ns.length + 1))] := fun A hA => by
        unfold kidApp
        rw [← hA, List.getElem?_append_right (Nat.le_refl _), Nat.sub_self]
        simp
      unfold underT
      simp only [List.getLast?_append, List.getLast?_singleton, Option.some_or, Int.toNat_natCast]
      cases h : z.os.getLast? with
      | none =>
        simp only
        rw [key _ rfl]
        simp
      | some t =>
        simp only
        rw [key _ (kidApp_len _ _ _)]
        simp
    rw [e2]
    simp only [List.cons_append, runT]
    rw [if_neg (by decide), if_pos (by rfl), if_neg (by simp)]
    simp only [List.dropLast_concat]
    have e3 : (⟨(underT z ((o, k.rt (z.ns.length + 1)) :: k.nd (z.ns.length + 1)) [(z.ns.length : Int)]).ns, (underT z ((o, k.rt (z.ns.length + 1)) :: k.nd (z.ns.length + 1)) [(z.ns.length : Int)]).rs, z.os⟩ : BT) = underT z ((o, k.rt (z.ns.length + 1)) :: k.nd (z.ns.length + 1)) [(z.ns.length : Int)] := by
      have := underT_os z ((o, k.rt (z.ns.length + 1)) :: k.nd (z.ns.length + 1)) [(z.ns.length : Int)]
      rw [← this]
    rw [e3, runT_flat r _ m hk.2.2 (underT_fine hz _ _), underT_len, underT_two z hz, List.length_cons, Fo.nd_len, show z.ns.length + (k.cnt + 1) = z.ns.length + 1 + k.cnt by omega]
    simp only [Fo.nd, Fo.rt, List.cons_append, List.nil_append]
theorem buildT_flat {f : Fo} (hk : f.ok) : buildT f.flat = (f.nd 0, f.rt 0, 0) := by
  have h := runT_flat f ⟨[], [], []⟩ [] hk (fun t h => by cases h)
  rw [List.append_nil] at h
  have e : runT f.flat ⟨[], [], []⟩ = (⟨f.nd 0, f.rt 0, []⟩, 0) := h
  unfold buildT
  simp only [e]
  rfl
/-! ### each number once -/
def idx (b n : Nat) : List Int := (List.range' b n).map fun (k : Nat) => (k : Int)
theorem idx_app (b m n : Nat) : idx b (m + n) = idx b m ++ idx (b + m) n := by
  simp [idx, ← List.range'_append_1]
theorem idx_succ (b n : Nat) : idx b (n + 1) = (b : Int) :: idx (b + 1) n := by simp [idx, List.range'_succ]
theorem Fo.perm : ∀ (f : Fo) (b : Nat), List.Perm (f.rt b ++ (f.nd b).flatMap (·.2)) (idx b f.cnt)
  | .nil, b => .nil
  | .draw o r, b => by
    simp only [Fo.rt, Fo.nd, Fo.cnt, List.flatMap_cons, List.nil_append, List.cons_append]
    rw [idx_succ]
    exact (r.perm (b + 1)).cons _
  | .grp o k r, b => by
    simp only [Fo.rt, Fo.nd, Fo.cnt, List.flatMap_cons, List.flatMap_append, List.cons_append]
    rw [idx_succ, idx_app]
    refine .cons _ ?_
    have h1 := k.perm (b + 1)
    have h2 := r.perm (b + 1 + k.cnt)
    refine List.Perm.trans ?_ (h1.append h2)
    rw [List.perm_iff_count]
    intro a
    simp only [List.count_append]
    omega
theorem Fo.mem {f : Fo} {b : Nat} {x : Int} : x ∈ f.rt b ++ (f.nd b).flatMap (·.2) ↔ (b : Int) ≤ x ∧ x < (b : Int) + f.cnt := by
  rw [(f.perm b).mem_iff]
  simp only [idx, List.mem_map, List.mem_range'_1]
  constructor
  · rintro ⟨k, hk, rfl⟩
    omega
  · intro h
    exact ⟨x.toNat, by omega, by omega⟩
theorem Fo.good (f : Fo) : Good (f.nd 0) (f.rt 0) where
  inr := fun x hx => by
    have := Fo.mem.1 hx
    rw [Fo.nd_len]
    omega
  nd := by
    rw [(f.perm 0).nodup_iff, idx, List.nodup_iff_pairwise_ne, List.pairwise_map]
    exact (List.nodup_range' (s := 0) (n := f.cnt)).imp fun h e => h (by omega)
/-- kids stand behind their parents -/
theorem Fo.kids_gt : ∀ (f : Fo) (b i : Nat) (p : Oq × List Int), (f.nd b)[i]? = some p → ∀ x ∈ p.2, (b : Int) + i < x
  | .nil, b, i, p, h, x, hx => by simp [Fo.nd] at h
  | .draw o r, b, i, p, h, x, hx => by
    rw [Fo.nd] at h
    cases i with
    | zero =>
      simp only [List.getElem?_cons_zero, Option.some.injEq] at h
      subst h; cases hx
    | succ i =>
      rw [List.getElem?_cons_succ] at h
      have := r.kids_gt (b + 1) i p h x hx
      omega
  | .grp o k r, b, i, p, h, x, hx => by
    rw [Fo.nd] at h
    cases i with
    | zero =>
      simp only [List.getElem?_cons_zero, Option.some.injEq] at h
      subst h
      have := Fo.mem.1 (List.mem_append_left _ hx)
      omega
    | succ i =>
      rw [List.getElem?_cons_succ] at h
      by_cases hi : i < k.cnt
      · rw [List.getElem?_append_left (by rw [Fo.nd_len]; exact hi)] at h
        have := k.kids_gt (b + 1) i p h x hx
        omega
      · rw [List.getElem?_append_right (by rw [Fo.nd_len]; omega), Fo.nd_len] at h
        have := r.kids_gt (b + 1 + k.cnt) (i - k.cnt) p h x hx
        omega
theorem Fo.kinds : ∀ (f : Fo) (b : Nat), f.ok → ∀ p ∈ f.nd b, (p.1.kind = 1 ∧ p.2 = []) ∨ p.1.kind = 2
  | .nil, b, hk, p, h => by cases h
  | .draw o r, b, hk, p, h => by
    rw [Fo.nd] at h
    rcases List.mem_cons.1 h with rfl | h
    · exact .inl ⟨hk.1, rfl⟩
    · exact r.kinds _ hk.2 p h
  | .grp o k r, b, hk, p, h => by
    rw [Fo.nd] at h
    rcases List.mem_cons.1 h with rfl | h
    · exact .inr hk.1
    · rcases List.mem_append.1 h with h | h
      · exact k.kinds _ hk.2.1 p h
      · exact r.kinds _ hk.2.2 p h
theorem Fo.cover (f : Fo) : ∀ k : Nat, k < (f.nd 0).length → (k : Int) ∈ f.rt 0 ∨ ∃ i : Nat, i < k ∧ (k : Int) ∈ kidsAt (f.nd 0) (i : Int) := fun k hk => by
  rw [Fo.nd_len] at hk
  have h := Fo.mem (f := f) (b := 0) (x := (k : Int)) |>.2 (by omega)
  rcases List.mem_append.1 h with h | h
  · exact .inl h
  · obtain ⟨p, hp, hx⟩ := List.mem_flatMap.1 h
    obtain ⟨i, hi, rfl⟩ := List.getElem_of_mem hp
    have := f.kids_gt 0 i _ (List.getElem?_eq_getElem hi) _ hx
    exact .inr ⟨i, by omega, by rw [kidsAt_of hi]; exact hx⟩
/-! ### the parents -/
theorem addP_ok : ∀ (l : List Int) (p : Int) (s : List Bool) (o : List Int), s.length = o.length → l.Nodup → (∀ x ∈ l, 0 ≤ x ∧ x < (o.length : Int)) → (∀ x ∈ l, s[x.toNat]? = some false) →
    ∃ s' o', addP l p s o = (true, s', o') ∧ s'.length = o.length ∧ o'.length = o.length ∧ (∀ k : Nat, k < o.length → s'[k]? = if (k : Int) ∈ l then some true else s[k]?) ∧ ∀ k : Nat, k < o.length → o'[k]? = if (k : Int) ∈ l then some p else o[k]?
  | [], p, s, o, hl, hn, hi, hu => ⟨s, o, rfl, hl, rfl, fun k hk => by simp, fun k hk => by simp⟩
  | x :: l, p, s, o, hl, hn, hi, hu => by
    rw [List.nodup_cons] at hn
    have hx := hi x (List.mem_cons_self ..)
    have hux := hu x (List.mem_cons_self ..)
    have hne : ∀ y ∈ l, y.toNat ≠ x.toNat := fun y hy e => by
      have := hi y (List.mem_cons_of_mem _ hy)
      have : y = x := by omega
      exact hn.1 (this ▸ hy)
    obtain ⟨s', o', h1, h2, h3, h4, h5⟩ := addP_ok l p (s.set x.toNat true) (o.set x.toNat p) (by simpa using hl) hn.2 (fun y hy => by rw [List.length_set]; exact hi y (List.mem_cons_of_mem _ hy)) (fun y hy => by
      rw [List.getElem?_set_ne (Ne.symm (hne y hy))]
      exact hu y (List.mem_cons_of_mem _ hy))
    rw [List.length_set] at h2 h3 h4 h5
    refine ⟨s', o', ?_, h2, h3, fun k hk => ?_, fun k hk => ?_⟩
    · rw [addP, if_neg (by rw [hux]; simp; omega)]
      exact h1
    · rw [h4 k hk]
      by_cases e : (k : Int) ∈ l
      · rw [if_pos e, if_pos (List.mem_cons_of_mem _ e)]
      · rw [if_neg e]
        by_cases ex : (k : Int) = x
        · rw [if_pos (by rw [ex]; exact List.mem_cons_self ..), show x.toNat = k by omega, List.getElem?_set_self (by omega)]
        · rw [if_neg (by rw [List.mem_cons]; exact fun h => h.elim ex e), List.getElem?_set_ne (by omega)]
    · rw [h5 k hk]
      by_cases e : (k : Int) ∈ l
      · rw [if_pos e, if_pos (List.mem_cons_of_mem _ e)]
      · rw [if_neg e]
        by_cases ex : (k : Int) = x
        · rw [if_pos (by rw [ex]; exact List.mem_cons_self ..), show x.toNat = k by omega, List.getElem?_set_self (by omega)]
        · rw [if_neg (by rw [List.mem_cons]; exact fun h => h.elim ex e), List.getElem?_set_ne (by omega)]
theorem parNs_ok : ∀ (ns : Nodes) (i : Nat) (s : List Bool) (o : List Int), s.length = o.length → (∀ p ∈ ns, (p.1.kind = 1 ∧ p.2 = []) ∨ p.1.kind = 2) → (ns.flatMap (·.2)).Nodup → (∀ x ∈ ns.flatMap (·.2), 0 ≤ x ∧ x < (o.length : Int)) → (∀ x ∈ ns.flatMap (·.2), s[x.toNat]? = some false) →
    ∃ s' o', parNs ns i s o = (true, s', o') ∧ s'.length = o.length ∧ o'.length = o.length ∧ (∀ k : Nat, k < o.length → s'[k]? = if (k : Int) ∈ ns.flatMap (·.2) then some true else s[k]?) ∧ (∀ k : Nat, k < o.length → (k : Int) ∉ ns.flatMap (·.2) → o'[k]? = o[k]?) ∧ ∀ (j : Nat) (p : Oq × List Int), ns[j]? = some p → ∀ x ∈ p.2, o'[x.toNat]? = some ((i + j : Nat) : Int)
  | [], i, s, o, hl, hk, hn, hi, hu => ⟨s, o, rfl, hl, rfl, fun k hk => by simp, fun k hk _ => rfl, fun j p h => by simp at h⟩
  | p :: ns, i, s, o, hl, hk, hn, hi, hu => by
    rw [List.flatMap_cons] at hn hi hu
    obtain ⟨n1, n2, n3⟩ := List.nodup_append.1 hn
    have hkp := hk p (List.mem_cons_self ..)
    obtain ⟨s1, o1, a1, a2, a3, a4, a5⟩ := addP_ok p.2 i s o hl n1 (fun x hx => hi x (List.mem_append_left _ hx)) (fun x hx => hu x (List.mem_append_left _ hx))
    have hin2 : ∀ x ∈ ns.flatMap (·.2), 0 ≤ x ∧ x < (o.length : Int) := fun x hx => hi x (List.mem_append_right _ hx)
    obtain ⟨s', o', b1, b2, b3, b4, b5, b6⟩ := parNs_ok ns (i + 1) s1 o1 (by omega) (fun q hq => hk q (List.mem_cons_of_mem _ hq)) n2 (fun x hx => by rw [a3]; exact hin2 x hx) (fun x hx => by
      have hxi := hin2 x hx
      rw [a4 x.toNat (by omega), if_neg]
      · exact hu x (List.mem_append_right _ hx)
      · intro h
        rw [show ((x.toNat : Nat) : Int) = x by omega] at h
        exact n3 x h x hx rfl)
    rw [a3] at b2 b3 b4 b5
    refine ⟨s', o', ?_, b2, b3, fun k hk' => ?_, fun k hk' hno => ?_, fun j q hq x hx => ?_⟩
    · rw [parNs, if_neg, a1]
      · exact b1
      · rintro (h | h)
        · rcases hkp with e | e
          · exact h.1 e.1
          · exact h.2 e
        · rcases hkp with e | e
          · rw [e.2] at h; exact absurd h.2 (by simp)
          · rw [e] at h; exact absurd h.1 (by decide)
    · rw [b4 k hk', List.flatMap_cons]
      by_cases e : (k : Int) ∈ ns.flatMap (·.2)
      · rw [if_pos e, if_pos (List.mem_append_right _ e)]
      · rw [if_neg e, a4 k hk']
        by_cases e2 : (k : Int) ∈ p.2
        · rw [if_pos e2, if_pos (List.mem_append_left _ e2)]
        · rw [if_neg e2, if_neg (by rw [List.mem_append]; exact fun h => h.elim e2 e)]
    · rw [List.flatMap_cons, List.mem_append] at hno
      rw [b5 k hk' (fun h => hno (.inr h)), a5 k hk', if_neg (fun h => hno (.inl h))]
    · cases j with
      | zero =>
        simp only [List.getElem?_cons_zero, Option.some.injEq] at hq
        subst hq
        have hxi := hi x (List.mem_append_left _ hx)
        rw [b5 x.toNat (by omega), a5 x.toNat (by omega), if_pos]
        · rfl
        · rw [show ((x.toNat : Nat) : Int) = x by omega]; exact hx
        · rw [show ((x.toNat : Nat) : Int) = x by omega]
          exact fun h => n3 x hx x h rfl
      | succ j =>
        rw [List.getElem?_cons_succ] at hq
        rw [b6 j q hq x hx]
        congr 2
        omega
theorem parP_fo {f : Fo} (hk : f.ok) : ∃ o, parP (f.nd 0) (f.rt 0) = (o, true) ∧ o.length = f.cnt ∧ ∀ k : Nat, k < f.cnt → ∃ v, o[k]? = some v ∧ v < (k : Int) := by
  have hg := f.good
  have hln := f.nd_len 0
  obtain ⟨n1, n2, n3⟩ := List.nodup_append.1 hg.nd
  have hin := hg.inr
  rw [hln] at hin
  obtain ⟨s1, o1, a1, a2, a3, a4, a5⟩ := addP_ok (f.rt 0) (-1) (List.replicate f.cnt false) (List.replicate f.cnt 0) (by simp) n1 (fun x hx => by rw [List.length_replicate]; exact hin x (List.mem_append_left _ hx)) (fun x hx => by
    have := hin x (List.mem_append_left _ hx)
    rw [List.getElem?_replicate, if_pos (by omega)])
  rw [List.length_replicate] at a2 a3 a4 a5
  obtain ⟨s', o', b1, b2, b3, b4, b5, b6⟩ := parNs_ok (f.nd 0) 0 s1 o1 (by omega) (f.kinds 0 hk) n2 (fun x hx => by rw [a3]; exact hin x (List.mem_append_right _ hx)) (fun x hx => by
    have hxi := hin x (List.mem_append_right _ hx)
    rw [a4 x.toNat (by omega), if_neg, List.getElem?_replicate, if_pos (by omega)]
    intro h
    rw [show ((x.toNat : Nat) : Int) = x by omega] at h
    exact n3 x h x hx rfl)
  rw [a3] at b2 b3 b4 b5
  have hall : ∀ k : Nat, k < f.cnt → s'[k]? = some true := fun k hk' => by
    rw [b4 k hk']
    have h := Fo.mem (f := f) (b := 0) (x := (k : Int)) |>.2 (by omega)
    rcases List.mem_append.1 h with h | h
    · split
      · rfl
      · rw [a4 k hk', if_pos h]
    · rw [if_pos h]
  have hc : s'.contains false = false := by
    rw [List.contains_eq_any_beq, List.any_eq_false]
    intro x hx
    obtain ⟨k, hk', rfl⟩ := List.getElem_of_mem hx
    have := hall k (by omega)
    rw [List.getElem?_eq_getElem hk'] at this
    injection this with this
    rw [this]; decide
  refine ⟨o', ?_, b3, fun k hk' => ?_⟩
  · unfold parP
    rw [hln, a1]
    simp only
    rw [b1]
    simp only
    rw [hc]; rfl
  · rcases f.cover k (by omega) with h | ⟨i, hi, h⟩
    · refine ⟨-1, ?_, by omega⟩
      rw [b5 k hk' (fun e => n3 k h k e rfl), a5 k hk', if_pos h]
    · rw [kidsAt_of (by omega)] at h
      refine ⟨((0 + i : Nat) : Int), ?_, by omega⟩
      have := b6 i _ (List.getElem?_eq_getElem (by omega)) _ h
      rw [Int.toNat_natCast] at this
      exact this
theorem lev_fo {f : Fo} (hk : f.ok) : (levP (f.nd 0) (f.rt 0)).2 = true := by
  obtain ⟨o, h1, _⟩ := parP_fo hk
  unfold levP
  rw [h1, if_pos rfl]
  exact decide_eq_true (lev_full f.good f.cover)
end Go.Proofs.Ytaaealkgbklmeaa
/-
  The operations of a forest: what Emit answers.
-/
namespace Go.Proofs.Ytaaealkgbklmeaa
open Go.RowKit
set_option linter.unusedVariables false
set_option linter.unusedSimpArgs false
attribute [local irreducible] Ans AnsO AnsG AnsN AnsI
set_option maxRecDepth 4000
def emitP (ns : Nodes) (rs : List Int) : List Oq × Int := if (levP ns rs).2 = true then (emN ns rs, 0) else ([], 20)
theorem boxes_cons (B : Bx) (b : Nat) : boxes [B] b = if b = 0 then B else .fresh := by
  cases b <;> rfl
theorem behind_nil {w : World} {S : Nat → Prop} {ι ι' : Names} {B : Bx} {r : Ret} : Behind w S ι [] r ι' = Behind w S (fun _ => none) [B] r ι' := by
  funext g
  have e1 : OwnB (boxes []) ι g = False := propext ⟨fun ⟨b, c, h, _⟩ => (by simp [boxes, Bx.live] at h), False.elim⟩
  have e2 : OwnB (boxes [B]) (fun _ => none) g = False := propext ⟨fun ⟨b, c, _, h⟩ => (by cases h), False.elim⟩
  unfold Behind
  rw [e1, e2]
/-- a row of one's own that is nil -/
theorem AnsG.of_nil {P : Program} {f : FuncId} {a b c : DV} {e sz : Nat} {r : Ret} (h : AnsG P f 0 [AV.agg [.d a, .d b], AV.one (.d c), AV.one (.ref 0 0)] [Bx.row e sz []] r) : AnsG P f 0 [AV.agg [.d a, .d b], AV.one (.d c), AV.one .nil] [] r := by
  unfold AnsG at h ⊢
  intro w S ι vs hG hh
  have harg := hh.args
  refine (h w S (fun _ => none) vs hG ⟨fun b g c _ h => (by cases h), fun b b' g c c' _ _ _ h => (by cases h), fun b => ?_, ?_⟩).mono fun ed w' hw => ?_
  · rw [boxes_cons]
    split
    · exact .inl ⟨rfl, rfl⟩
    · trivial
  · obtain ⟨vs⟩ := vs
    match vs, harg with
    | [x, y, z], harg =>
      simp only [RepAVs, RepAV, RepCl, and_true] at harg ⊢
      obtain ⟨⟨cur, rfl, hc⟩, h2, h3⟩ := harg
      refine ⟨⟨cur, rfl, ?_⟩, h2, rfl, ?_⟩
      · obtain ⟨cur⟩ := cur
        match cur, hc with
        | [p, q], hc => simpa only [RepCls, RepCl] using hc
      · simp [h3]
  · obtain ⟨v, ι', rfl, hA⟩ := hw
    refine ⟨v, ι', rfl, ⟨?_, fun b => ?_, fun b g c hl hi => ?_, hA.dist, fun b hb => absurd hb (Nat.not_lt_zero b), ?_⟩⟩
    · rw [behind_nil (B := Bx.row e sz [])]; exact hA.rep
    · rw [behind_nil (B := Bx.row e sz [])]; exact hA.bx b
    · obtain ⟨h1, h2⟩ := hA.own b g c hl hi
      exact ⟨h1.elim .inl fun ⟨b, c, _, h⟩ => (by cases h), h2⟩
    · exact ⟨hA.bel.os, hA.bel.tape, hA.bel.output, hA.bel.size, fun g hg hn => hA.bel.block g hg fun ⟨b, c, _, h⟩ => by cases h⟩
theorem em_fresh (l : List Oq) (n : Nat) (e : Int) : freshOK ⟨AV.tup [AV.one (Cl.ref 0 n), AV.one (Cl.d (DV.int .i64 e))], [Bx.row 35 12 (ops l)], true⟩ := by
  refine ⟨⟨trivial, rfl, trivial⟩, fun d hd => ?_, trivial⟩
  unfold ops at hd
  obtain ⟨o, _, ho⟩ := List.mem_flatMap.1 hd
  simp only [Oq.cells, List.mem_cons, List.not_mem_nil, or_false] at ho
  rcases ho with rfl | rfl | rfl | rfl | rfl | rfl | rfl | rfl | rfl | rfl | rfl | rfl <;> rfl
theorem emD_cons (ns : Nodes) (d : Nat) (x : Int) (l : List Int) {p : Oq × List Int} (hp : ns[x.toNat]? = some p) : emD ns (d + 1) (x :: l) = (p.1 :: (if p.1.kind = 2 then emD ns d p.2 ++ [popO] else [])) ++ emD ns (d + 1) l := by
  simp only [emD, List.flatMap_cons, hp]
theorem em_nil (ns : Nodes) (d : Nat) : Deep ns d [] ∧ emD ns d [] = [] := by
  cases d with
  | zero => exact ⟨rfl, rfl⟩
  | succ d => exact ⟨fun x h => (by cases h), rfl⟩
theorem em_fo (ns : Nodes) : ∀ (f : Fo) (b d : Nat), f.ok → (∀ (i : Nat) (p : Oq × List Int), (f.nd b)[i]? = some p → ns[b + i]? = some p) → f.cnt ≤ d → Deep ns d (f.rt b) ∧ emD ns d (f.rt b) = f.flat
  | .nil, b, d, hk, hA, hd => em_nil ns d
  | .draw o r, b, d, hk, hA, hd => by
    simp only [Fo.cnt] at hd
    obtain ⟨e, rfl⟩ : ∃ e, d = e + 1 := ⟨d - 1, by omega⟩
    obtain ⟨h1, h2⟩ := em_fo ns r (b + 1) (e + 1) hk.2 (fun i p hp => by
      rw [show b + 1 + i = b + (i + 1) by omega]
      exact hA (i + 1) p (by rw [Fo.nd, List.getElem?_cons_succ]; exact hp)) (by omega)
    have hb : ns[b]? = some (o, []) := hA 0 _ (by rw [Fo.nd]; rfl)
    have hb' : ns[((b : Int)).toNat]? = some (o, []) := by rw [Int.toNat_natCast]; exact hb
    have ho : ¬ o.kind = 2 := by rw [hk.1]; decide
    refine ⟨fun x hx => ?_, ?_⟩
    · rw [Fo.rt] at hx
      rcases List.mem_cons.1 hx with rfl | hx
      · exact ⟨by omega, _, hb', fun h => absurd h ho⟩
      · exact h1 x hx
    · rw [Fo.rt, emD_cons ns e _ _ hb', h2, if_neg ho]
      rfl
  | .grp o k r, b, d, hk, hA, hd => by
    simp only [Fo.cnt] at hd
    obtain ⟨e, rfl⟩ : ∃ e, d = e + 1 := ⟨d - 1, by omega⟩
    have hkl := k.nd_len (b + 1)
    obtain ⟨h1, h2⟩ := em_fo ns r (b + 1 + k.cnt) (e + 1) hk.2.2 (fun i p hp => by
      rw [show b + 1 + k.cnt + i = b + (k.cnt + i + 1) by omega]
      refine hA (k.cnt + i + 1) p ?_
      rw [Fo.nd, List.getElem?_cons_succ, List.getElem?_append_right (by omega), hkl, Nat.add_sub_cancel_left]
      exact hp) (by omega)
    obtain ⟨k1, k2⟩ := em_fo ns k (b + 1) e hk.2.1 (fun i p hp => by
      have hi := (List.getElem?_eq_some_iff.1 hp).1
      rw [show b + 1 + i = b + (i + 1) by omega]
      refine hA (i + 1) p ?_
      rw [Fo.nd, List.getElem?_cons_succ, List.getElem?_append_left hi]
      exact hp) (by omega)
    have hb : ns[b]? = some (o, k.rt (b + 1)) := hA 0 _ (by rw [Fo.nd]; rfl)
    have hb' : ns[((b : Int)).toNat]? = some (o, k.rt (b + 1)) := by rw [Int.toNat_natCast]; exact hb
    refine ⟨fun x hx => ?_, ?_⟩
    · rw [Fo.rt] at hx
      rcases List.mem_cons.1 hx with rfl | hx
      · exact ⟨by omega, _, hb', fun _ => k1⟩
      · exact h1 x hx
    · rw [Fo.rt, emD_cons ns e _ _ hb', h2, if_pos hk.1, k2]
      simp [Fo.flat]
theorem emit_ok (ns : Nodes) (rs : List Int) (hl : ns.length ≤ 100000) (hkl : ∀ p ∈ ns, p.2.length ≤ 100000) : ∀ (d : Nat) (l : List Int), (l ≠ [] → d ≤ ns.length) → Deep ns d l → l.length ≤ 100000 → ∀ q : List Oq, q.length + (emN ns l).length ≤ 100000 → EmOK ns rs l q
  | 0, l, hd, hD, hll, q, hb => by
    have e : l = [] := hD
    subst e
    have := tree_emit_ans ns rs [] q 0 hl (by simp) (fun h => absurd rfl h) (fun k h => absurd h (by simp)) (fun x h => (by cases h)) hb
    unfold EmOK
    simpa only [toNodes_nodesD, ints_is, toOps_ops] using this
  | d + 1, l, hd, hD, hll, q, hb => by
    have := tree_emit_ans ns rs l q d hl hll hd (fun k h p hp h2 q' hb' => by
      obtain ⟨_, p', hp', hdp⟩ := hD l[k] (List.getElem_mem h)
      rw [hp] at hp'
      injection hp' with hp'
      subst hp'
      exact emit_ok ns rs hl hkl d p.2 (fun _ => by have := hd (List.ne_nil_of_length_pos (by omega)); omega) (hdp h2) (hkl p (List.mem_of_getElem? hp)) q' hb') hD hb
    unfold EmOK
    simpa only [toNodes_nodesD, ints_is, toOps_ops] using this
theorem flat_le {α β : Type} {f : α → List β} : ∀ {l : List α} {a : α}, a ∈ l → (f a).length ≤ (l.flatMap f).length
  | c :: l, a, h => by
    rw [List.flatMap_cons, List.length_append]
    rcases List.mem_cons.1 h with rfl | h
    · omega
    · have := flat_le (f := f) h
      omega
theorem emit_fo {f : Fo} (hk : f.ok) (hl : f.size ≤ 100000) : EmOK (f.nd 0) (f.rt 0) (f.rt 0) [] ∧ emN (f.nd 0) (f.rt 0) = f.flat := by
  have hc := f.cnt_le
  have hn := f.nd_len 0
  have hp := (f.perm 0).length_eq
  rw [List.length_append] at hp
  have hi : (idx 0 f.cnt).length = f.cnt := by simp [idx]
  obtain ⟨h1, h2⟩ := em_fo (f.nd 0) f 0 f.cnt hk (fun i p hp => by rw [Nat.zero_add]; exact hp) (Nat.le_refl _)
  have h3 : emN (f.nd 0) (f.rt 0) = f.flat := by unfold emN; rw [hn]; exact h2
  refine ⟨emit_ok (f.nd 0) (f.rt 0) (by omega) (fun p hp' => ?_) f.cnt (f.rt 0) (fun _ => by omega) h1 (by omega) [] ?_, h3⟩
  · have := flat_le (f := fun q : Oq × List Int => q.2) hp'
    omega
  · rw [h3, Fo.flat_len]
    simpa using hl
def gamTe : Gam where
 pure := fun f xs =>
  if f = 14 then (match xs with | [.agg [.sl an axs, .sl ar ars]] => some (RV.d (DV.bool ((levP (toNodes (axs)) (ints (ars))).2))) | _ => none) else
  none
 modes := fun f =>
  if f = 22 then some ([true, true, false], 0, 1) else
  none
 proc := fun f xs bs =>
  if f = 22 then (match xs, bs with | [AV.agg [Cl.d (DV.sl an axs), Cl.d (DV.sl ar ars)], AV.one (Cl.d (DV.sl ln lxs)), AV.one (Cl.nil)], [] => some ⟨AV.one (Cl.ref 0 ((emN (toNodes (axs)) (ints (lxs))).length)), [Bx.row 35 12 (ops (emN (toNodes (axs)) (ints (lxs))))], false⟩ | _, _ => none) else
  none
 iter := fun f cs =>
  none
def tree_Emit_ann (ns : Nodes) (rs : List Int) : Ann := Ann.leaf
theorem tree_Emit_vc (ns : Nodes) (rs : List Int) : vcg Try.prog gamTe ⟨11, fun _ => false, List.range 0, false⟩ (bodyOf Try.f11) (tree_Emit_ann ns rs) kn0 (startG [AV.agg [Cl.d (DV.sl ns.length (nodesD ns)), Cl.d (DV.sl rs.length (is rs))]] []) (postG Try.prog ⟨11, fun _ => false, List.range 0, false⟩ Try.f11.results.toList ⟨AV.tup [AV.one (Cl.ref 0 ((emitP (toNodes (nodesD ns)) (ints (is rs))).1.length)), AV.one (Cl.d (DV.int .i64 ((emitP (toNodes (nodesD ns)) (ints (is rs))).2)))], [Bx.row 35 12 (ops (emitP (toNodes (nodesD ns)) (ints (is rs))).1)], true⟩) =
  (True ∧ True ∧ True ∧ True ∧ (Ans Try.prog 14 [RV.agg [DV.sl ns.length (nodesD ns), DV.sl rs.length (is rs)]] (RV.d (DV.bool ((levP (toNodes ((nodesD ns))) (ints ((is rs)))).2)))) ∧ True ∧ (((!((levP (toNodes ((nodesD ns))) (ints ((is rs)))).2)) = true → True ∧ True ∧ ((((0 = (emitP (toNodes (nodesD ns)) (ints (is rs))).1.length) ∧ (DV.int .i64 20 = DV.int .i64 ((emitP (toNodes (nodesD ns)) (ints (is rs))).2)) ∧ True) ∧ True) ∧ (([] = ops (emitP (toNodes (nodesD ns)) (ints (is rs))).1) ∧ True)) ∧ freshOK ⟨AV.tup [AV.one (Cl.ref 0 ((emitP (toNodes (nodesD ns)) (ints (is rs))).1.length)), AV.one (Cl.d (DV.int .i64 ((emitP (toNodes (nodesD ns)) (ints (is rs))).2)))], [Bx.row 35 12 (ops (emitP (toNodes (nodesD ns)) (ints (is rs))).1)], true⟩) ∧ ((!((levP (toNodes ((nodesD ns))) (ints ((is rs)))).2)) = false → True ∧ True ∧ True ∧ (AnsG Try.prog 22 0 [AV.agg [Cl.d (DV.sl ns.length (nodesD ns)), Cl.d (DV.sl rs.length (is rs))], AV.one (Cl.d (DV.sl rs.length (is rs))), AV.one (Cl.nil)] [] ⟨AV.one (Cl.ref 0 ((emN (toNodes ((nodesD ns))) (ints ((is rs)))).length)), [Bx.row 35 12 (ops (emN (toNodes ((nodesD ns))) (ints ((is rs)))))], false⟩) ∧ True ∧ True ∧ (((((emN (toNodes ((nodesD ns))) (ints ((is rs)))).length = (emitP (toNodes (nodesD ns)) (ints (is rs))).1.length) ∧ (DV.int .i64 0 = DV.int .i64 ((emitP (toNodes (nodesD ns)) (ints (is rs))).2)) ∧ True) ∧ True) ∧ ((ops (emN (toNodes ((nodesD ns))) (ints ((is rs)))) = ops (emitP (toNodes (nodesD ns)) (ints (is rs))).1) ∧ True)) ∧ freshOK ⟨AV.tup [AV.one (Cl.ref 0 ((emitP (toNodes (nodesD ns)) (ints (is rs))).1.length)), AV.one (Cl.d (DV.int .i64 ((emitP (toNodes (nodesD ns)) (ints (is rs))).2)))], [Bx.row 35 12 (ops (emitP (toNodes (nodesD ns)) (ints (is rs))).1)], true⟩))) := by kernel_rfl
theorem tree_Emit_ans (ns : Nodes) (rs : List Int) (f : Fo) (hk : f.ok) (hf : ns = f.nd 0) (hr : rs = f.rt 0) (hl : f.size ≤ 100000) : AnsG Try.prog 11 0 [AV.agg [Cl.d (DV.sl ns.length (nodesD ns)), Cl.d (DV.sl rs.length (is rs))]] [] ⟨AV.tup [AV.one (Cl.ref 0 ((emitP (toNodes (nodesD ns)) (ints (is rs))).1.length)), AV.one (Cl.d (DV.int .i64 ((emitP (toNodes (nodesD ns)) (ints (is rs))).2)))], [Bx.row 35 12 (ops (emitP (toNodes (nodesD ns)) (ints (is rs))).1)], true⟩ :=
  ansG_of_vcg (Γ := gamTe) (tree_Emit_ann ns rs) mixed_ Try.func11 rfl (Nat.le_of_ble_eq_true rfl) rfl fun hwf hbx => by
    refine Eq.mpr (tree_Emit_vc ns rs) ?_
    simp only [true_and, and_true, RV.d.injEq, RV.agg.injEq, RV.tup.injEq, DV.bool.injEq, DV.int.injEq, DV.sl.injEq, List.cons.injEq, forall_const, Bool.not_false, Bool.not_true, Bool.not_eq_true', Bool.not_eq_false', decide_eq_true_eq, decide_eq_false_iff_not, Int.toNat_natCast]
    subst hf hr
    have hlv := lev_fo hk
    obtain ⟨h1, h2⟩ := emit_fo hk hl
    have hc := f.cnt_le
    have aV := tree_Valid_ans (f.nd 0) (f.rt 0) (by rw [f.nd_len]; omega) f.good
    have hE : emitP (f.nd 0) (f.rt 0) = (emN (f.nd 0) (f.rt 0), 0) := by unfold emitP; rw [if_pos hlv]
    clear hwf
    simp only [toNodes_nodesD, ints_is, hE, hlv] at aV ⊢
    unfold EmOK at h1
    refine ⟨aV, fun h => absurd h (by decide), fun _ => ⟨.of_nil h1, by simp only [and_self], em_fresh _ _ _⟩⟩
end Go.Proofs.Ytaaealkgbklmeaa
/-
  TreeRoundTrip answers true, whatever it is handed.
-/
namespace Go.Proofs.Ytaaealkgbklmeaa
open Go.RowKit
set_option linter.unusedVariables false
set_option linter.unusedSimpArgs false
attribute [local irreducible] Ans AnsO AnsG AnsN AnsI
set_option maxRecDepth 4000
theorem runT_code : ∀ (l : List Oq) (z : BT), (runT l z).2 = 0 ∨ (runT l z).2 = 9 ∨ (runT l z).2 = 18
  | [], z => .inl rfl
  | o :: l, z => by
    rw [runT]
    split
    · exact runT_code l _
    · split
      · split
        · exact .inr (.inr rfl)
        · exact runT_code l _
      · exact .inr (.inl rfl)
theorem buildT_code (l : List Oq) : (buildT l).2.2 = 0 ∨ (buildT l).2.2 = 9 ∨ (buildT l).2.2 = 18 := by
  unfold buildT
  simp only
  split
  · exact runT_code l _
  · split
    · exact .inl rfl
    · exact .inr (.inr rfl)
def gamTreeRoundTrip : Gam where
 pure := fun f xs =>
  if f = 7 then (match xs with | [.d (.sl pn pxs), .d (.bool c)] => some (RV.d (DV.sl ((listL (ints (pxs)) c).length) (ops (listL (ints (pxs)) c)))) | _ => none) else
  if f = 8 then (match xs with | [.d (.sl pn pxs)] => some (RV.tup [RV.agg [DV.sl ((buildT (toOps (pxs))).1.length) (nodesD (buildT (toOps (pxs))).1), DV.sl ((buildT (toOps (pxs))).2.1.length) (is (buildT (toOps (pxs))).2.1)], RV.d (DV.int .i64 ((buildT (toOps (pxs))).2.2))]) | _ => none) else
  if f = 9 then (match xs with | [] => some (RV.d (DV.bool true)) | _ => none) else
  if f = 8 then (match xs with | [.d (.sl pn pxs)] => some (RV.tup [RV.agg [DV.sl ((buildT (toOps (pxs))).1.length) (nodesD (buildT (toOps (pxs))).1), DV.sl ((buildT (toOps (pxs))).2.1.length) (is (buildT (toOps (pxs))).2.1)], RV.d (DV.int .i64 ((buildT (toOps (pxs))).2.2))]) | _ => none) else
  if f = 9 then (match xs with | [] => some (RV.d (DV.bool true)) | _ => none) else
  if f = 12 then (match xs with | [.d (.sl n xs), .d (.sl m ys)] => some (RV.d (DV.bool (decide (toOps (xs) = toOps (ys))))) | _ => none) else
  if f = 13 then (match xs with | [.agg [.sl an axs, .sl ar ars], .agg [.sl bn bxs, .sl br brs]] => some (RV.d (DV.bool (decide (ints (ars) = ints (brs)) && decide (toNodes (axs) = toNodes (bxs))))) | _ => none) else
  if f = 14 then (match xs with | [.agg [.sl an axs, .sl ar ars]] => some (RV.d (DV.bool ((levP (toNodes (axs)) (ints (ars))).2))) | _ => none) else
  none
 modes := fun f =>
  if f = 11 then some ([true], 0, 1) else
  none
 proc := fun f xs bs =>
  if f = 11 then (match xs, bs with | [AV.agg [Cl.d (DV.sl an axs), Cl.d (DV.sl ar ars)]], [] => some ⟨AV.tup [AV.one (Cl.ref 0 ((emitP (toNodes (axs)) (ints (ars))).1.length)), AV.one (Cl.d (DV.int .i64 ((emitP (toNodes (axs)) (ints (ars))).2)))], [Bx.row 35 12 (ops (emitP (toNodes (axs)) (ints (ars))).1)], true⟩ | _, _ => none) else
  none
 iter := fun f cs =>
  none
def L21_TreeRoundTrip_ann (pn : Nat) (pxs : List DV) : Ann := Ann.leaf
theorem L21_TreeRoundTrip_vc (pn : Nat) (pxs : List DV) : vcg Try.prog gamTreeRoundTrip 61 (bodyOf Try.f4) (L21_TreeRoundTrip_ann pn pxs) kn0 (start [RV.d (DV.sl pn pxs)]) (post Try.prog Try.f4.results.toList (· = RV.d (DV.bool true))) =
  (let zz0 := (DV.sl ((listL (ints (pxs)) true).length) (ops (listL (ints (pxs)) true))); let zz1 := [DV.sl ((buildT (toOps ((ops (listL (ints (pxs)) true))))).1.length) (nodesD (buildT (toOps ((ops (listL (ints (pxs)) true))))).1), DV.sl ((buildT (toOps ((ops (listL (ints (pxs)) true))))).2.1.length) (is (buildT (toOps ((ops (listL (ints (pxs)) true))))).2.1)]; let zz2 := (Ans Try.prog 9 [] (RV.d (DV.bool true))); let zz3 := (DV.sl ((emitP (toNodes ((nodesD (buildT (toOps ((ops (listL (ints (pxs)) true))))).1))) (ints ((is (buildT (toOps ((ops (listL (ints (pxs)) true))))).2.1)))).1.length) (ops (emitP (toNodes ((nodesD (buildT (toOps ((ops (listL (ints (pxs)) true))))).1))) (ints ((is (buildT (toOps ((ops (listL (ints (pxs)) true))))).2.1)))).1)); let zz4 := [DV.sl ((buildT (toOps ((ops (emitP (toNodes ((nodesD (buildT (toOps ((ops (listL (ints (pxs)) true))))).1))) (ints ((is (buildT (toOps ((ops (listL (ints (pxs)) true))))).2.1)))).1)))).1.length) (nodesD (buildT (toOps ((ops (emitP (toNodes ((nodesD (buildT (toOps ((ops (listL (ints (pxs)) true))))).1))) (ints ((is (buildT (toOps ((ops (listL (ints (pxs)) true))))).2.1)))).1)))).1), DV.sl ((buildT (toOps ((ops (emitP (toNodes ((nodesD (buildT (toOps ((ops (listL (ints (pxs)) true))))).1))) (ints ((is (buildT (toOps ((ops (listL (ints (pxs)) true))))).2.1)))).1)))).2.1.length) (is (buildT (toOps ((ops (emitP (toNodes ((nodesD (buildT (toOps ((ops (listL (ints (pxs)) true))))).1))) (ints ((is (buildT (toOps ((ops (listL (ints (pxs)) true))))).2.1)))).1)))).2.1)]; let zz5 := (DV.bool ((levP (toNodes ((nodesD (buildT (toOps ((ops (listL (ints (pxs)) true))))).1))) (ints ((is (buildT (toOps ((ops (listL (ints (pxs)) true))))).2.1)))).2)); True ∧ True ∧ (Ans Try.prog 7 [RV.d (DV.sl pn pxs), RV.d (DV.bool true)] (RV.d zz0)) ∧ True ∧ True ∧ (Ans Try.prog 8 [RV.d zz0] (RV.tup [RV.agg zz1, RV.d (DV.int .i64 ((buildT (toOps ((ops (listL (ints (pxs)) true))))).2.2))])) ∧ True ∧ True ∧ True ∧ True ∧ True ∧ True ∧ True ∧ True ∧ (((((buildT (toOps ((ops (listL (ints (pxs)) true))))).2.2) != (0 : Int)) = true → zz2 ∧ True ∧ ((true = true → True ∧ True ∧ True ∧ (((((buildT (toOps ((ops (listL (ints (pxs)) true))))).2.2) == (9 : Int)) = false → True ∧ True ∧ True ∧ True ∧ True ∧ RV.d (DV.bool (((buildT (toOps ((ops (listL (ints (pxs)) true))))).2.2) == (18 : Int))) = RV.d (DV.bool true)) ∧ ((((buildT (toOps ((ops (listL (ints (pxs)) true))))).2.2) == (9 : Int)) = (!false) → True ∧ True ∧ True ∧ RV.d (DV.bool true) = RV.d (DV.bool true)))) ∧ (true = (!true) → True ∧ True ∧ RV.d (DV.bool false) = RV.d (DV.bool true)))) ∧ ((((buildT (toOps ((ops (listL (ints (pxs)) true))))).2.2) != (0 : Int)) = false → True ∧ (AnsG Try.prog 11 0 [AV.agg [Cl.d (DV.sl ((buildT (toOps ((ops (listL (ints (pxs)) true))))).1.length) (nodesD (buildT (toOps ((ops (listL (ints (pxs)) true))))).1)), Cl.d (DV.sl ((buildT (toOps ((ops (listL (ints (pxs)) true))))).2.1.length) (is (buildT (toOps ((ops (listL (ints (pxs)) true))))).2.1))]] [] ⟨AV.tup [AV.one (Cl.ref 0 ((emitP (toNodes ((nodesD (buildT (toOps ((ops (listL (ints (pxs)) true))))).1))) (ints ((is (buildT (toOps ((ops (listL (ints (pxs)) true))))).2.1)))).1.length)), AV.one (Cl.d (DV.int .i64 ((emitP (toNodes ((nodesD (buildT (toOps ((ops (listL (ints (pxs)) true))))).1))) (ints ((is (buildT (toOps ((ops (listL (ints (pxs)) true))))).2.1)))).2)))], [Bx.row 35 12 (ops (emitP (toNodes ((nodesD (buildT (toOps ((ops (listL (ints (pxs)) true))))).1))) (ints ((is (buildT (toOps ((ops (listL (ints (pxs)) true))))).2.1)))).1)], true⟩) ∧ True ∧ True ∧ True ∧ True ∧ True ∧ True ∧ (Ans Try.prog 8 [RV.d zz3] (RV.tup [RV.agg zz4, RV.d (DV.int .i64 ((buildT (toOps ((ops (emitP (toNodes ((nodesD (buildT (toOps ((ops (listL (ints (pxs)) true))))).1))) (ints ((is (buildT (toOps ((ops (listL (ints (pxs)) true))))).2.1)))).1)))).2.2))])) ∧ True ∧ True ∧ True ∧ True ∧ True ∧ True ∧ zz2 ∧ True ∧ ((true = true → True ∧ True ∧ True ∧ True ∧ (((((emitP (toNodes ((nodesD (buildT (toOps ((ops (listL (ints (pxs)) true))))).1))) (ints ((is (buildT (toOps ((ops (listL (ints (pxs)) true))))).2.1)))).2) == (0 : Int)) = true → True ∧ True ∧ True ∧ True ∧ (((((buildT (toOps ((ops (emitP (toNodes ((nodesD (buildT (toOps ((ops (listL (ints (pxs)) true))))).1))) (ints ((is (buildT (toOps ((ops (listL (ints (pxs)) true))))).2.1)))).1)))).2.2) == (0 : Int)) = true → True ∧ True ∧ (Ans Try.prog 12 [RV.d zz0, RV.d zz3] (RV.d (DV.bool (decide (toOps ((ops (listL (ints (pxs)) true))) = toOps ((ops (emitP (toNodes ((nodesD (buildT (toOps ((ops (listL (ints (pxs)) true))))).1))) (ints ((is (buildT (toOps ((ops (listL (ints (pxs)) true))))).2.1)))).1))))))) ∧ True ∧ True ∧ (((decide (toOps ((ops (listL (ints (pxs)) true))) = toOps ((ops (emitP (toNodes ((nodesD (buildT (toOps ((ops (listL (ints (pxs)) true))))).1))) (ints ((is (buildT (toOps ((ops (listL (ints (pxs)) true))))).2.1)))).1)))) = true → True ∧ True ∧ (Ans Try.prog 13 [RV.agg zz1, RV.agg zz4] (RV.d (DV.bool (decide (ints ((is (buildT (toOps ((ops (listL (ints (pxs)) true))))).2.1)) = ints ((is (buildT (toOps ((ops (emitP (toNodes ((nodesD (buildT (toOps ((ops (listL (ints (pxs)) true))))).1))) (ints ((is (buildT (toOps ((ops (listL (ints (pxs)) true))))).2.1)))).1)))).2.1))) && decide (toNodes ((nodesD (buildT (toOps ((ops (listL (ints (pxs)) true))))).1)) = toNodes ((nodesD (buildT (toOps ((ops (emitP (toNodes ((nodesD (buildT (toOps ((ops (listL (ints (pxs)) true))))).1))) (ints ((is (buildT (toOps ((ops (listL (ints (pxs)) true))))).2.1)))).1)))).1))))))) ∧ True ∧ True ∧ (((decide (ints ((is (buildT (toOps ((ops (listL (ints (pxs)) true))))).2.1)) = ints ((is (buildT (toOps ((ops (emitP (toNodes ((nodesD (buildT (toOps ((ops (listL (ints (pxs)) true))))).1))) (ints ((is (buildT (toOps ((ops (listL (ints (pxs)) true))))).2.1)))).1)))).2.1))) && decide (toNodes ((nodesD (buildT (toOps ((ops (listL (ints (pxs)) true))))).1)) = toNodes ((nodesD (buildT (toOps ((ops (emitP (toNodes ((nodesD (buildT (toOps ((ops (listL (ints (pxs)) true))))).1))) (ints ((is (buildT (toOps ((ops (listL (ints (pxs)) true))))).2.1)))).1)))).1)))) = true → True ∧ (Ans Try.prog 14 [RV.agg zz1] (RV.d zz5)) ∧ True ∧ True ∧ RV.d zz5 = RV.d (DV.bool true)) ∧ ((decide (ints ((is (buildT (toOps ((ops (listL (ints (pxs)) true))))).2.1)) = ints ((is (buildT (toOps ((ops (emitP (toNodes ((nodesD (buildT (toOps ((ops (listL (ints (pxs)) true))))).1))) (ints ((is (buildT (toOps ((ops (listL (ints (pxs)) true))))).2.1)))).1)))).2.1))) && decide (toNodes ((nodesD (buildT (toOps ((ops (listL (ints (pxs)) true))))).1)) = toNodes ((nodesD (buildT (toOps ((ops (emitP (toNodes ((nodesD (buildT (toOps ((ops (listL (ints (pxs)) true))))).1))) (ints ((is (buildT (toOps ((ops (listL (ints (pxs)) true))))).2.1)))).1)))).1)))) = (!true) → True ∧ True ∧ RV.d (DV.bool false) = RV.d (DV.bool true)))) ∧ ((decide (toOps ((ops (listL (ints (pxs)) true))) = toOps ((ops (emitP (toNodes ((nodesD (buildT (toOps ((ops (listL (ints (pxs)) true))))).1))) (ints ((is (buildT (toOps ((ops (listL (ints (pxs)) true))))).2.1)))).1)))) = (!true) → True ∧ True ∧ True ∧ True ∧ RV.d (DV.bool false) = RV.d (DV.bool true)))) ∧ ((((buildT (toOps ((ops (emitP (toNodes ((nodesD (buildT (toOps ((ops (listL (ints (pxs)) true))))).1))) (ints ((is (buildT (toOps ((ops (listL (ints (pxs)) true))))).2.1)))).1)))).2.2) == (0 : Int)) = (!true) → True ∧ True ∧ True ∧ True ∧ True ∧ True ∧ RV.d (DV.bool false) = RV.d (DV.bool true)))) ∧ ((((emitP (toNodes ((nodesD (buildT (toOps ((ops (listL (ints (pxs)) true))))).1))) (ints ((is (buildT (toOps ((ops (listL (ints (pxs)) true))))).2.1)))).2) == (0 : Int)) = (!true) → True ∧ True ∧ True ∧ True ∧ True ∧ True ∧ True ∧ True ∧ RV.d (DV.bool false) = RV.d (DV.bool true)))) ∧ (true = (!true) → True ∧ True ∧ True ∧ True ∧ True ∧ True ∧ True ∧ True ∧ True ∧ True ∧ RV.d (DV.bool false) = RV.d (DV.bool true)))))) := by kernel_rfl
theorem L21_TreeRoundTrip_ans (pn : Nat) (pxs : List DV) (hx : pxs = is (ints pxs) ∧ pn = pxs.length) : Ans Try.prog 4 [RV.d (DV.sl pn pxs)] (RV.d (DV.bool true)) :=
  ans_of_vcg (Γ := gamTreeRoundTrip) (L21_TreeRoundTrip_ann pn pxs) mixed_ Try.func4 rfl (Nat.le_of_ble_eq_true rfl) fun hwf => by
    refine Eq.mpr (L21_TreeRoundTrip_vc pn pxs) ?_
    simp only [true_and, and_true, RV.d.injEq, RV.agg.injEq, RV.tup.injEq, DV.bool.injEq, DV.int.injEq, DV.sl.injEq, List.cons.injEq, forall_const, Bool.not_false, Bool.not_true, Bool.not_eq_true', Bool.not_eq_false', decide_eq_true_eq, decide_eq_false_iff_not, Int.toNat_natCast]
    obtain ⟨l, rfl, rfl⟩ : ∃ l, pxs = is l ∧ pn = l.length := ⟨ints pxs, hx.1, by rw [hx.2, hx.1, is_length, ints_is]⟩
    have h80 : (listL l true).length ≤ 100000 := by have := listL_len l true; omega
    have aL := L21_list_ans l true
    clear hx
    have aB := tree_Build_ans (listL l true) h80
    have hpop := listL_pops l true
    have hrel := ends_err (listL l true)
    have aZ := L21_awake_ans
    have h80' := listL_len l true
    have hcode := buildT_code (listL l true)
    clear hwf
    simp only [treeD, ints_is, toOps_ops, toNodes_nodesD] at aL aB ⊢
    generalize listL l true = L at *
    refine ⟨aL, aB, fun hc => ⟨aZ, ⟨fun h => ?_, fun _ => trivial⟩, fun h => absurd h (by decide)⟩, fun hc => ?_⟩
    · rcases hcode with e | e | e
      · rw [e] at hc; exact absurd hc (by decide)
      · rw [e] at h; exact absurd h (by decide)
      · rw [e]; rfl
    have hc : (buildT L).2.2 = 0 := by simpa using hc
    obtain ⟨f, hk, rfl⟩ := ends_parse hpop (by rw [hrel, hc])
    have hsz := f.flat_len
    have hcn := f.cnt_le
    have hnl := f.nd_len 0
    have hlv := lev_fo hk
    have hE : emitP (f.nd 0) (f.rt 0) = (f.flat, 0) := by
      unfold emitP
      rw [if_pos hlv, (emit_fo hk (by omega)).2]
    have aE := tree_Emit_ans (f.nd 0) (f.rt 0) f hk rfl rfl (by omega)
    have aV := tree_Valid_ans (f.nd 0) (f.rt 0) (by omega) f.good
    have aS := R18_SameOps_ans f.flat f.flat
    have aT := R18_SameTree_ans (f.nd 0) (f.rt 0) (f.nd 0) (f.rt 0)
    simp only [buildT_flat hk, toNodes_nodesD, ints_is, toOps_ops, hE, hlv, decide_true, Bool.and_self] at aB aE aV aS aT ⊢
    refine ⟨aE, aB, aZ, ⟨fun _ => ⟨fun _ => ⟨aS, fun _ => ⟨aT, ⟨fun _ => ⟨aV, ?_⟩, fun h => absurd h (by decide)⟩⟩, fun h => absurd trivial h⟩, fun h => absurd h (by decide)⟩, fun h => absurd h (by decide)⟩, fun h => absurd h (by decide)⟩
    all_goals trivial
end Go.Proofs.Ytaaealkgbklmeaa
/-
  The program's own closed facts, once: each a declaration of its own.
-/
namespace Go.Proofs.Ytaaealkgbklmeaa.closed
open Go
set_option linter.unusedVariables false
set_option linter.unusedSimpArgs false
set_option maxRecDepth 100000 in
theorem headWord : Try.prog.initOrder = String.ofList [Char.ofNat 104, Char.ofNat 97, Char.ofNat 114, Char.ofNat 110, Char.ofNat 101, Char.ofNat 115, Char.ofNat 115, Char.ofNat 32, Char.ofNat 99, Char.ofNat 50, Char.ofNat 51, Char.ofNat 100, Char.ofNat 52, Char.ofNat 56, Char.ofNat 52, Char.ofNat 99, Char.ofNat 101, Char.ofNat 53, Char.ofNat 98, Char.ofNat 56, Char.ofNat 53, Char.ofNat 54, Char.ofNat 54, Char.ofNat 99, Char.ofNat 54, Char.ofNat 51, Char.ofNat 54, Char.ofNat 49, Char.ofNat 50, Char.ofNat 54, Char.ofNat 102, Char.ofNat 50, Char.ofNat 102, Char.ofNat 48, Char.ofNat 97, Char.ofNat 54, Char.ofNat 55, Char.ofNat 57, Char.ofNat 99, Char.ofNat 48, Char.ofNat 55, Char.ofNat 51, Char.ofNat 53, Char.ofNat 54, Char.ofNat 57, Char.ofNat 54, Char.ofNat 54, Char.ofNat 54, Char.ofNat 99, Char.ofNat 53, Char.ofNat 49, Char.ofNat 53, Char.ofNat 101, Char.ofNat 54, Char.ofNat 56, Char.ofNat 98, Char.ofNat 97, Char.ofNat 49, Char.ofNat 98, Char.ofNat 98, Char.ofNat 52, Char.ofNat 53, Char.ofNat 99, Char.ofNat 51, Char.ofNat 54, Char.ofNat 55, Char.ofNat 98, Char.ofNat 99, Char.ofNat 100, Char.ofNat 53, Char.ofNat 57, Char.ofNat 99, Char.ofNat 32, Char.ofNat 99, Char.ofNat 117, Char.ofNat 116, Char.ofNat 32, Char.ofNat 97, Char.ofNat 116, Char.ofNat 32, Char.ofNat 99, Char.ofNat 111, Char.ofNat 109, Char.ofNat 112, Char.ofNat 111, Char.ofNat 115, Char.ofNat 105, Char.ofNat 116, Char.ofNat 111, Char.ofNat 114, Char.ofNat 47, Char.ofNat 99, Char.ofNat 111, Char.ofNat 109, Char.ofNat 112, Char.ofNat 111, Char.ofNat 115, Char.ofNat 105, Char.ofNat 116, Char.ofNat 111, Char.ofNat 114, Char.ofNat 108, Char.ofNat 97, Char.ofNat 119, Char.ofNat 50, Char.ofNat 49, Char.ofNat 46, Char.ofNat 84, Char.ofNat 114, Char.ofNat 101, Char.ofNat 101, Char.ofNat 78, Char.ofNat 117, Char.ofNat 109, Char.ofNat 98, Char.ofNat 101, Char.ofNat 114, Char.ofNat 115, Char.ofNat 71, Char.ofNat 114, Char.ofNat 111, Char.ofNat 119, Char.ofNat 32, Char.ofNat 99, Char.ofNat 111, Char.ofNat 109, Char.ofNat 112, Char.ofNat 111, Char.ofNat 115, Char.ofNat 105, Char.ofNat 116, Char.ofNat 111, Char.ofNat 114, Char.ofNat 47, Char.ofNat 99, Char.ofNat 111, Char.ofNat 109, Char.ofNat 112, Char.ofNat 111, Char.ofNat 115, Char.ofNat 105, Char.ofNat 116, Char.ofNat 111, Char.ofNat 114, Char.ofNat 108, Char.ofNat 97, Char.ofNat 119, Char.ofNat 50, Char.ofNat 49, Char.ofNat 46, Char.ofNat 84, Char.ofNat 114, Char.ofNat 101, Char.ofNat 101, Char.ofNat 82, Char.ofNat 111, Char.ofNat 117, Char.ofNat 110, Char.ofNat 100, Char.ofNat 84, Char.ofNat 114, Char.ofNat 105, Char.ofNat 112, Char.ofNat 32, Char.ofNat 99, Char.ofNat 111, Char.ofNat 109, Char.ofNat 112, Char.ofNat 111, Char.ofNat 115, Char.ofNat 105, Char.ofNat 116, Char.ofNat 111, Char.ofNat 114, Char.ofNat 47, Char.ofNat 99, Char.ofNat 111, Char.ofNat 109, Char.ofNat 112, Char.ofNat 111, Char.ofNat 115, Char.ofNat 105, Char.ofNat 116, Char.ofNat 111, Char.ofNat 114, Char.ofNat 108, Char.ofNat 97, Char.ofNat 119, Char.ofNat 50, Char.ofNat 49, Char.ofNat 46, Char.ofNat 84, Char.ofNat 114, Char.ofNat 101, Char.ofNat 101, Char.ofNat 66, Char.ofNat 117, Char.ofNat 105, Char.ofNat 108, Char.ofNat 100, Char.ofNat 65, Char.ofNat 103, Char.ofNat 114, Char.ofNat 101, Char.ofNat 101, Char.ofNat 115, Char.ofNat 32, Char.ofNat 99, Char.ofNat 111, Char.ofNat 109, Char.ofNat 112, Char.ofNat 111, Char.ofNat 115, Char.ofNat 105, Char.ofNat 116, Char.ofNat 111, Char.ofNat 114, Char.ofNat 47, Char.ofNat 99, Char.ofNat 111, Char.ofNat 109, Char.ofNat 112, Char.ofNat 111, Char.ofNat 115, Char.ofNat 105, Char.ofNat 116, Char.ofNat 111, Char.ofNat 114, Char.ofNat 108, Char.ofNat 97, Char.ofNat 119, Char.ofNat 50, Char.ofNat 49, Char.ofNat 46, Char.ofNat 84, Char.ofNat 114, Char.ofNat 101, Char.ofNat 101, Char.ofNat 69, Char.ofNat 110, Char.ofNat 100, Char.ofNat 115, Char.ofNat 78, Char.ofNat 101, Char.ofNat 115, Char.ofNat 116] := by kernel_rfl
set_option maxRecDepth 100000 in
theorem headSigns : Try.prog.initOrder.toList = [Char.ofNat 104, Char.ofNat 97, Char.ofNat 114, Char.ofNat 110, Char.ofNat 101, Char.ofNat 115, Char.ofNat 115, Char.ofNat 32, Char.ofNat 99, Char.ofNat 50, Char.ofNat 51, Char.ofNat 100, Char.ofNat 52, Char.ofNat 56, Char.ofNat 52, Char.ofNat 99, Char.ofNat 101, Char.ofNat 53, Char.ofNat 98, Char.ofNat 56, Char.ofNat 53, Char.ofNat 54, Char.ofNat 54, Char.ofNat 99, Char.ofNat 54, Char.ofNat 51, Char.ofNat 54, Char.ofNat 49, Char.ofNat 50, Char.ofNat 54, Char.ofNat 102, Char.ofNat 50, Char.ofNat 102, Char.ofNat 48, Char.ofNat 97, Char.ofNat 54, Char.ofNat 55, Char.ofNat 57, Char.ofNat 99, Char.ofNat 48, Char.ofNat 55, Char.ofNat 51, Char.ofNat 53, Char.ofNat 54, Char.ofNat 57, Char.ofNat 54, Char.ofNat 54, Char.ofNat 54, Char.ofNat 99, Char.ofNat 53, Char.ofNat 49, Char.ofNat 53, Char.ofNat 101, Char.ofNat 54, Char.ofNat 56, Char.ofNat 98, Char.ofNat 97, Char.ofNat 49, Char.ofNat 98, Char.ofNat 98, Char.ofNat 52, Char.ofNat 53, Char.ofNat 99, Char.ofNat 51, Char.ofNat 54, Char.ofNat 55, Char.ofNat 98, Char.ofNat 99, Char.ofNat 100, Char.ofNat 53, Char.ofNat 57, Char.ofNat 99, Char.ofNat 32, Char.ofNat 99, Char.ofNat 117, Char.ofNat 116, Char.ofNat 32, Char.ofNat 97, Char.ofNat 116, Char.ofNat 32, Char.ofNat 99, Char.ofNat 111, Char.ofNat 109, Char.ofNat 112, Char.ofNat 111, Char.ofNat 115, Char.ofNat 105, Char.ofNat 116, Char.ofNat 111, Char.ofNat 114, Char.ofNat 47, Char.ofNat 99, Char.ofNat 111, Char.ofNat 109, Char.ofNat 112, Char.ofNat 111, Char.ofNat 115, Char.ofNat 105, Char.ofNat 116, Char.ofNat 111, Char.ofNat 114, Char.ofNat 108, Char.ofNat 97, Char.ofNat 119, Char.ofNat 50, Char.ofNat 49, Char.ofNat 46, Char.ofNat 84, Char.ofNat 114, Char.ofNat 101, Char.ofNat 101, Char.ofNat 78, Char.ofNat 117, Char.ofNat 109, Char.ofNat 98, Char.ofNat 101, Char.ofNat 114, Char.ofNat 115, Char.ofNat 71, Char.ofNat 114, Char.ofNat 111, Char.ofNat 119, Char.ofNat 32, Char.ofNat 99, Char.ofNat 111, Char.ofNat 109, Char.ofNat 112, Char.ofNat 111, Char.ofNat 115, Char.ofNat 105, Char.ofNat 116, Char.ofNat 111, Char.ofNat 114, Char.ofNat 47, Char.ofNat 99, Char.ofNat 111, Char.ofNat 109, Char.ofNat 112, Char.ofNat 111, Char.ofNat 115, Char.ofNat 105, Char.ofNat 116, Char.ofNat 111, Char.ofNat 114, Char.ofNat 108, Char.ofNat 97, Char.ofNat 119, Char.ofNat 50, Char.ofNat 49, Char.ofNat 46, Char.ofNat 84, Char.ofNat 114, Char.ofNat 101, Char.ofNat 101, Char.ofNat 82, Char.ofNat 111, Char.ofNat 117, Char.ofNat 110, Char.ofNat 100, Char.ofNat 84, Char.ofNat 114, Char.ofNat 105, Char.ofNat 112, Char.ofNat 32, Char.ofNat 99, Char.ofNat 111, Char.ofNat 109, Char.ofNat 112, Char.ofNat 111, Char.ofNat 115, Char.ofNat 105, Char.ofNat 116, Char.ofNat 111, Char.ofNat 114, Char.ofNat 47, Char.ofNat 99, Char.ofNat 111, Char.ofNat 109, Char.ofNat 112, Char.ofNat 111, Char.ofNat 115, Char.ofNat 105, Char.ofNat 116, Char.ofNat 111, Char.ofNat 114, Char.ofNat 108, Char.ofNat 97, Char.ofNat 119, Char.ofNat 50, Char.ofNat 49, Char.ofNat 46, Char.ofNat 84, Char.ofNat 114, Char.ofNat 101, Char.ofNat 101, Char.ofNat 66, Char.ofNat 117, Char.ofNat 105, Char.ofNat 108, Char.ofNat 100, Char.ofNat 65, Char.ofNat 103, Char.ofNat 114, Char.ofNat 101, Char.ofNat 101, Char.ofNat 115, Char.ofNat 32, Char.ofNat 99, Char.ofNat 111, Char.ofNat 109, Char.ofNat 112, Char.ofNat 111, Char.ofNat 115, Char.ofNat 105, Char.ofNat 116, Char.ofNat 111, Char.ofNat 114, Char.ofNat 47, Char.ofNat 99, Char.ofNat 111, Char.ofNat 109, Char.ofNat 112, Char.ofNat 111, Char.ofNat 115, Char.ofNat 105, Char.ofNat 116, Char.ofNat 111, Char.ofNat 114, Char.ofNat 108, Char.ofNat 97, Char.ofNat 119, Char.ofNat 50, Char.ofNat 49, Char.ofNat 46, Char.ofNat 84, Char.ofNat 114, Char.ofNat 101, Char.ofNat 101, Char.ofNat 69, Char.ofNat 110, Char.ofNat 100, Char.ofNat 115, Char.ofNat 78, Char.ofNat 101, Char.ofNat 115, Char.ofNat 116] := by rw [headWord, String.toList_ofList]
set_option maxRecDepth 100000 in
theorem enters : Try.prog.mayEnter = true := by
  unfold Program.mayEnter Program.doorFits
  rw [headSigns]
  kernel_rfl
set_option maxRecDepth 100000 in
theorem liftsNot : Try.prog.liftsFinal = false := by
  unfold Program.liftsFinal Program.headLifts
  rw [headSigns]
  kernel_rfl
set_option maxRecDepth 100000 in
theorem made : Try.prog.make = some .cut := by
  unfold Program.make
  rw [headSigns]
  kernel_rfl
theorem own : ownKnob Try.prog.godebug = none := by kernel_rfl
theorem laidOut : laidOutB Try.prog = true := by kernel_rfl
theorem mapsRow : mapsRowed Try.prog = true := by kernel_rfl
theorem noStops : (Try.prog.stops == []) = true := by kernel_rfl
theorem noKnobs : (Try.prog.stopKnobs == []) = true := by kernel_rfl
theorem plain : Try.prog.plainKeys = true := by kernel_rfl
theorem heard : Try.prog.stopsHeard = true := by kernel_rfl
end Go.Proofs.Ytaaealkgbklmeaa.closed
