/-
  What every seat of this program has: gen.Mod.
-/
import Derived.Test.YtoljdijpmnadpaaSpA
import Derived.Test.YtoljdijpmnadpaaProg
namespace Go.Proofs.Ytoljdijpmnadpaa
open Go.RowKit
set_option linter.unusedVariables false
set_option linter.unusedSimpArgs false

theorem mixed_ : Try.prog.follows .mixedOrders = true := by kernel_rfl
def gamM : Gam where
 pure := fun f xs =>
  if f = 9 then (match xs with | [.d (.int _ n), .d (.int _ k)] => some (RV.d (DV.int .i64 (modS n k))) | _ => none) else
  none
 modes := fun f =>
  none
 proc := fun f xs bs =>
  none
 iter := fun f cs =>
  none

def G_Mod_ann (n : Int) (k : Int) : Ann := Ann.leaf
theorem G_Mod_vc (n : Int) (k : Int) : vcg Try.prog gamM 14 (bodyOf Try.f9) (G_Mod_ann n k) kn0 (start [RV.d (DV.int .i64 n), RV.d (DV.int .i64 k)]) (post Try.prog Try.f9.results.toList (· = RV.d (DV.int .i64 (modS n k)))) =
  ((True) ∧ (True) ∧ (True) ∧ (((decide (k < (1 : Int))) = true → (True) ∧ RV.d (DV.int .i64 (0 : Int)) = RV.d (DV.int .i64 (modS n k))) ∧ ((decide (k < (1 : Int))) = false → (True) ∧ (True) ∧ (k ≠ 0) ∧ (True) ∧ (True) ∧ (True) ∧ (k ≠ 0) ∧ (True) ∧ RV.d (DV.int .i64 (Int.tmod (IntKind.wrap .i64 ((Int.tmod n k) + k)) k)) = RV.d (DV.int .i64 (modS n k))))) := by kernel_rfl
theorem G_Mod_ans (n : Int) (k : Int) : Ans Try.prog 9 [RV.d (DV.int .i64 n), RV.d (DV.int .i64 k)] (RV.d (DV.int .i64 (modS n k))) :=
  ans_of_vcg (Γ := gamM) (G_Mod_ann n k) mixed_ Try.func9 rfl (Nat.le_of_ble_eq_true rfl) fun hwf => by
    refine Eq.mpr (G_Mod_vc n k) ?_
    simp only [true_and, and_true, RV.d.injEq, DV.int.injEq, forall_const, Bool.not_false, Bool.not_true]
    unfold modS; grind

end Go.Proofs.Ytoljdijpmnadpaa
