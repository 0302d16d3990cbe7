/-
  The functions of package rect and of its reference answer as the plain words say.
-/
import Derived.Test.YtoljdijpmnadpaaMix
namespace Go.Proofs.Ytoljdijpmnadpaa
open Go.RowKit
set_option linter.unusedVariables false
set_option linter.unusedSimpArgs false

def withinS (l : Int) (xs : List DV) : Bool := (ints xs).all fun v => decide (-l ≤ v) && decide (v ≤ l)
def gam : Gam where
 pure := fun f xs =>
  if f = 9 then (match xs with | [.d (.int _ n), .d (.int _ k)] => some (RV.d (DV.int .i64 (modS n k))) | _ => none) else
  if f = 34 then (match xs with | [.d (.int _ l), .d (.sl n xs)] => some (RV.d (DV.bool (withinS l xs))) | _ => none) else
  if f = 32 then (match xs with | [.agg [.int _ a, .int _ b, .int _ c, .int _ d]] => some (RV.d (DV.bool (Rc.valid ⟨a, b, c, d⟩))) | _ => none) else
  if f = 33 then (match xs with | [.agg [.int _ a, .int _ b, .int _ c, .int _ d]] => some (RV.d (DV.bool (Rc.valid ⟨a, b, c, d⟩))) | _ => none) else
  if f = 26 then (match xs with | [.agg [.int _ a, .int _ b, .int _ c, .int _ d]] => some (RV.d (DV.bool (Rc.empty ⟨a, b, c, d⟩))) | _ => none) else
  if f = 28 then (match xs with | [.agg [.int _ a, .int _ b, .int _ c, .int _ d], .d (.int _ x), .d (.int _ y)] => some (RV.d (DV.bool (Rc.has ⟨a, b, c, d⟩ x y))) | _ => none) else
  if f = 27 then (match xs with | [.agg [.int _ a, .int _ b, .int _ c, .int _ d]] => some (RV.d (DV.bool (Rc.empty ⟨a, b, c, d⟩))) | _ => none) else
  if f = 30 then (match xs with | [.agg [.int _ a, .int _ b, .int _ c, .int _ d]] => some (RV.agg [DV.int .i64 ((Rc.clean ⟨a, b, c, d⟩).a), DV.int .i64 ((Rc.clean ⟨a, b, c, d⟩).b), DV.int .i64 ((Rc.clean ⟨a, b, c, d⟩).c), DV.int .i64 ((Rc.clean ⟨a, b, c, d⟩).d)]) | _ => none) else
  if f = 21 then (match xs with | [.agg [.int _ a, .int _ b, .int _ c, .int _ d]] => some (RV.d (DV.int .i64 (Rc.area ⟨a, b, c, d⟩))) | _ => none) else
  if f = 20 then (match xs with | [.agg [.int _ a, .int _ b, .int _ c, .int _ d], .d (.int _ x), .d (.int _ y)] => some (RV.d (DV.bool (Rc.has ⟨a, b, c, d⟩ x y))) | _ => none) else
  if f = 19 then (match xs with | [.agg [.int _ a, .int _ b, .int _ c, .int _ d], .agg [.int _ a', .int _ b', .int _ c', .int _ d']] => some (RV.d (DV.bool (Rc.covers ⟨a, b, c, d⟩ ⟨a', b', c', d'⟩))) | _ => none) else
  if f = 29 then (match xs with | [.agg [.int _ a, .int _ b, .int _ c, .int _ d], .agg [.int _ a', .int _ b', .int _ c', .int _ d']] => some (RV.agg [DV.int .i64 ((Rc.inter ⟨a, b, c, d⟩ ⟨a', b', c', d'⟩).a), DV.int .i64 ((Rc.inter ⟨a, b, c, d⟩ ⟨a', b', c', d'⟩).b), DV.int .i64 ((Rc.inter ⟨a, b, c, d⟩ ⟨a', b', c', d'⟩).c), DV.int .i64 ((Rc.inter ⟨a, b, c, d⟩ ⟨a', b', c', d'⟩).d)]) | _ => none) else
  none
 modes := fun f =>
  none
 proc := fun f xs bs =>
  none
 iter := fun f cs =>
  none

def R13_ValidRect_ann (a : Int) (b : Int) (c : Int) (d : Int) : Ann := Ann.leaf
theorem R13_ValidRect_vc (a : Int) (b : Int) (c : Int) (d : Int) : vcg Try.prog gam 41 (bodyOf Try.f33) (R13_ValidRect_ann a b c d) kn0 (start [RV.agg [DV.int .i64 a, DV.int .i64 b, DV.int .i64 c, DV.int .i64 d]]) (post Try.prog Try.f33.results.toList (· = RV.d (DV.bool (Rc.valid ⟨a, b, c, d⟩)))) =
  (let zz0 := (DV.bool (Rc.valid ⟨a, b, c, d⟩)); (True) ∧ (True) ∧ (True) ∧ (True) ∧ (True) ∧ (True) ∧ (((decide (a ≥ (-1073741824 : Int))) = true → (True) ∧ (True) ∧ (True) ∧ (True) ∧ (True) ∧ (((decide (a ≤ (1073741824 : Int))) = true → (True) ∧ (True) ∧ (True) ∧ (True) ∧ (True) ∧ (((decide (b ≥ (-1073741824 : Int))) = true → (True) ∧ (True) ∧ (True) ∧ (True) ∧ (True) ∧ (((decide (b ≤ (1073741824 : Int))) = true → (True) ∧ (True) ∧ (True) ∧ (True) ∧ (True) ∧ (((decide (c ≥ (-1073741824 : Int))) = true → (True) ∧ (True) ∧ (True) ∧ (True) ∧ (True) ∧ (((decide (c ≤ (1073741824 : Int))) = true → (True) ∧ (True) ∧ (True) ∧ (True) ∧ (True) ∧ (((decide (d ≥ (-1073741824 : Int))) = true → (True) ∧ (True) ∧ (True) ∧ (True) ∧ (True) ∧ RV.d (DV.bool (decide (d ≤ (1073741824 : Int)))) = RV.d zz0) ∧ ((decide (d ≥ (-1073741824 : Int))) = (!true) → (True) ∧ (True) ∧ RV.d (DV.bool false) = RV.d zz0))) ∧ ((decide (c ≤ (1073741824 : Int))) = (!true) → (True) ∧ (True) ∧ (True) ∧ (True) ∧ RV.d (DV.bool false) = RV.d zz0))) ∧ ((decide (c ≥ (-1073741824 : Int))) = (!true) → (True) ∧ (True) ∧ (True) ∧ (True) ∧ (True) ∧ (True) ∧ RV.d (DV.bool false) = RV.d zz0))) ∧ ((decide (b ≤ (1073741824 : Int))) = (!true) → (True) ∧ (True) ∧ (True) ∧ (True) ∧ (True) ∧ (True) ∧ (True) ∧ (True) ∧ RV.d (DV.bool false) = RV.d zz0))) ∧ ((decide (b ≥ (-1073741824 : Int))) = (!true) → (True) ∧ (True) ∧ (True) ∧ (True) ∧ (True) ∧ (True) ∧ (True) ∧ (True) ∧ (True) ∧ (True) ∧ RV.d (DV.bool false) = RV.d zz0))) ∧ ((decide (a ≤ (1073741824 : Int))) = (!true) → (True) ∧ (True) ∧ (True) ∧ (True) ∧ (True) ∧ (True) ∧ (True) ∧ (True) ∧ (True) ∧ (True) ∧ (True) ∧ (True) ∧ RV.d (DV.bool false) = RV.d zz0))) ∧ ((decide (a ≥ (-1073741824 : Int))) = (!true) → (True) ∧ (True) ∧ (True) ∧ (True) ∧ (True) ∧ (True) ∧ (True) ∧ (True) ∧ (True) ∧ (True) ∧ (True) ∧ (True) ∧ (True) ∧ (True) ∧ RV.d (DV.bool false) = RV.d zz0))) := by kernel_rfl
theorem R13_ValidRect_ans (a : Int) (b : Int) (c : Int) (d : Int) : Ans Try.prog 33 [RV.agg [DV.int .i64 a, DV.int .i64 b, DV.int .i64 c, DV.int .i64 d]] (RV.d (DV.bool (Rc.valid ⟨a, b, c, d⟩))) :=
  ans_of_vcg (Γ := gam) (R13_ValidRect_ann a b c d) mixed_ Try.func33 rfl (Nat.le_of_ble_eq_true rfl) fun hwf => by
    refine Eq.mpr (R13_ValidRect_vc a b c d) ?_
    simp only [true_and, and_true, RV.d.injEq, RV.agg.injEq, RV.tup.injEq, DV.bool.injEq, DV.int.injEq, List.cons.injEq, forall_const, Bool.not_false, Bool.not_true, Bool.not_eq_true', Bool.not_eq_false']
    grind [Rc.valid, okC]

def R13_Empty_ann (a : Int) (b : Int) (c : Int) (d : Int) : Ann := Ann.leaf
theorem R13_Empty_vc (a : Int) (b : Int) (c : Int) (d : Int) : vcg Try.prog gam 20 (bodyOf Try.f27) (R13_Empty_ann a b c d) kn0 (start [RV.agg [DV.int .i64 a, DV.int .i64 b, DV.int .i64 c, DV.int .i64 d]]) (post Try.prog Try.f27.results.toList (· = RV.d (DV.bool (Rc.empty ⟨a, b, c, d⟩)))) =
  (let zz0 := (DV.bool (Rc.empty ⟨a, b, c, d⟩)); (True) ∧ (True) ∧ (True) ∧ (Ans Try.prog 33 [RV.agg [DV.int .i64 a, DV.int .i64 b, DV.int .i64 c, DV.int .i64 d]] (RV.d (DV.bool (Rc.valid ⟨a, b, c, d⟩)))) ∧ (True) ∧ (True) ∧ (((!(Rc.valid ⟨a, b, c, d⟩)) = false → (True) ∧ (True) ∧ (True) ∧ (True) ∧ (True) ∧ (True) ∧ (True) ∧ (((decide (a ≥ c)) = false → (True) ∧ (True) ∧ (True) ∧ (True) ∧ (True) ∧ (True) ∧ (True) ∧ RV.d (DV.bool (decide (b ≥ d))) = RV.d zz0) ∧ ((decide (a ≥ c)) = (!false) → (True) ∧ (True) ∧ RV.d (DV.bool true) = RV.d zz0))) ∧ ((!(Rc.valid ⟨a, b, c, d⟩)) = (!false) → (True) ∧ (True) ∧ (True) ∧ (True) ∧ RV.d (DV.bool true) = RV.d zz0))) := by kernel_rfl
theorem R13_Empty_ans (a : Int) (b : Int) (c : Int) (d : Int) : Ans Try.prog 27 [RV.agg [DV.int .i64 a, DV.int .i64 b, DV.int .i64 c, DV.int .i64 d]] (RV.d (DV.bool (Rc.empty ⟨a, b, c, d⟩))) :=
  ans_of_vcg (Γ := gam) (R13_Empty_ann a b c d) mixed_ Try.func27 rfl (Nat.le_of_ble_eq_true rfl) fun hwf => by
    refine Eq.mpr (R13_Empty_vc a b c d) ?_
    simp only [true_and, and_true, RV.d.injEq, RV.agg.injEq, RV.tup.injEq, DV.bool.injEq, DV.int.injEq, List.cons.injEq, forall_const, Bool.not_false, Bool.not_true, Bool.not_eq_true', Bool.not_eq_false', R13_ValidRect_ans, G_Mod_ans]
    grind [Rc.empty]

def R13_clean_ann (a : Int) (b : Int) (c : Int) (d : Int) : Ann := Ann.leaf
theorem R13_clean_vc (a : Int) (b : Int) (c : Int) (d : Int) : vcg Try.prog gam 7 (bodyOf Try.f30) (R13_clean_ann a b c d) kn0 (start [RV.agg [DV.int .i64 a, DV.int .i64 b, DV.int .i64 c, DV.int .i64 d]]) (post Try.prog Try.f30.results.toList (· = RV.agg [DV.int .i64 ((Rc.clean ⟨a, b, c, d⟩).a), DV.int .i64 ((Rc.clean ⟨a, b, c, d⟩).b), DV.int .i64 ((Rc.clean ⟨a, b, c, d⟩).c), DV.int .i64 ((Rc.clean ⟨a, b, c, d⟩).d)])) =
  (let zz0 := [DV.int .i64 a, DV.int .i64 b, DV.int .i64 c, DV.int .i64 d]; let zz1 := [DV.int .i64 ((Rc.clean ⟨a, b, c, d⟩).a), DV.int .i64 ((Rc.clean ⟨a, b, c, d⟩).b), DV.int .i64 ((Rc.clean ⟨a, b, c, d⟩).c), DV.int .i64 ((Rc.clean ⟨a, b, c, d⟩).d)]; (True) ∧ (True) ∧ (True) ∧ (Ans Try.prog 27 [RV.agg zz0] (RV.d (DV.bool (Rc.empty ⟨a, b, c, d⟩)))) ∧ (((Rc.empty ⟨a, b, c, d⟩) = true → (True) ∧ (True) ∧ RV.agg [DV.int .i64 (0 : Int), DV.int .i64 (0 : Int), DV.int .i64 (0 : Int), DV.int .i64 (0 : Int)] = RV.agg zz1) ∧ ((Rc.empty ⟨a, b, c, d⟩) = false → (True) ∧ (True) ∧ RV.agg zz0 = RV.agg zz1))) := by kernel_rfl
theorem R13_clean_ans (a : Int) (b : Int) (c : Int) (d : Int) : Ans Try.prog 30 [RV.agg [DV.int .i64 a, DV.int .i64 b, DV.int .i64 c, DV.int .i64 d]] (RV.agg [DV.int .i64 ((Rc.clean ⟨a, b, c, d⟩).a), DV.int .i64 ((Rc.clean ⟨a, b, c, d⟩).b), DV.int .i64 ((Rc.clean ⟨a, b, c, d⟩).c), DV.int .i64 ((Rc.clean ⟨a, b, c, d⟩).d)]) :=
  ans_of_vcg (Γ := gam) (R13_clean_ann a b c d) mixed_ Try.func30 rfl (Nat.le_of_ble_eq_true rfl) fun hwf => by
    refine Eq.mpr (R13_clean_vc a b c d) ?_
    simp only [true_and, and_true, RV.d.injEq, RV.agg.injEq, RV.tup.injEq, DV.bool.injEq, DV.int.injEq, List.cons.injEq, forall_const, Bool.not_false, Bool.not_true, Bool.not_eq_true', Bool.not_eq_false', R13_ValidRect_ans, G_Mod_ans, R13_Empty_ans]
    grind [Rc.clean, Rc.zero]

def R13_Area_ann (a : Int) (b : Int) (c : Int) (d : Int) : Ann := Ann.leaf
theorem R13_Area_vc (a : Int) (b : Int) (c : Int) (d : Int) : vcg Try.prog gam 16 (bodyOf Try.f21) (R13_Area_ann a b c d) kn0 (start [RV.agg [DV.int .i64 a, DV.int .i64 b, DV.int .i64 c, DV.int .i64 d]]) (post Try.prog Try.f21.results.toList (· = RV.d (DV.int .i64 (Rc.area ⟨a, b, c, d⟩)))) =
  ((True) ∧ (True) ∧ (True) ∧ (Ans Try.prog 30 [RV.agg [DV.int .i64 a, DV.int .i64 b, DV.int .i64 c, DV.int .i64 d]] (RV.agg [DV.int .i64 ((Rc.clean ⟨a, b, c, d⟩).a), DV.int .i64 ((Rc.clean ⟨a, b, c, d⟩).b), DV.int .i64 ((Rc.clean ⟨a, b, c, d⟩).c), DV.int .i64 ((Rc.clean ⟨a, b, c, d⟩).d)])) ∧ (True) ∧ (True) ∧ (True) ∧ (True) ∧ (True) ∧ (True) ∧ (True) ∧ (True) ∧ (True) ∧ (True) ∧ (True) ∧ (True) ∧ (True) ∧ RV.d (DV.int .i64 (IntKind.wrap .i64 ((IntKind.wrap .i64 (((Rc.clean ⟨a, b, c, d⟩).c) - ((Rc.clean ⟨a, b, c, d⟩).a))) * (IntKind.wrap .i64 (((Rc.clean ⟨a, b, c, d⟩).d) - ((Rc.clean ⟨a, b, c, d⟩).b)))))) = RV.d (DV.int .i64 (Rc.area ⟨a, b, c, d⟩))) := by kernel_rfl
theorem R13_Area_ans (a : Int) (b : Int) (c : Int) (d : Int) : Ans Try.prog 21 [RV.agg [DV.int .i64 a, DV.int .i64 b, DV.int .i64 c, DV.int .i64 d]] (RV.d (DV.int .i64 (Rc.area ⟨a, b, c, d⟩))) :=
  ans_of_vcg (Γ := gam) (R13_Area_ann a b c d) mixed_ Try.func21 rfl (Nat.le_of_ble_eq_true rfl) fun hwf => by
    refine Eq.mpr (R13_Area_vc a b c d) ?_
    simp only [true_and, and_true, RV.d.injEq, RV.agg.injEq, RV.tup.injEq, DV.bool.injEq, DV.int.injEq, List.cons.injEq, forall_const, Bool.not_false, Bool.not_true, Bool.not_eq_true', Bool.not_eq_false', R13_ValidRect_ans, G_Mod_ans, R13_Empty_ans, R13_clean_ans]
    exact Rc.area_wrap _

def R13_Contains_ann (a : Int) (b : Int) (c : Int) (d : Int) (x : Int) (y : Int) : Ann := Ann.leaf
theorem R13_Contains_vc (a : Int) (b : Int) (c : Int) (d : Int) (x : Int) (y : Int) : vcg Try.prog gam 34 (bodyOf Try.f20) (R13_Contains_ann a b c d x y) kn0 (start [RV.agg [DV.int .i64 a, DV.int .i64 b, DV.int .i64 c, DV.int .i64 d], RV.d (DV.int .i64 x), RV.d (DV.int .i64 y)]) (post Try.prog Try.f20.results.toList (· = RV.d (DV.bool (Rc.has ⟨a, b, c, d⟩ x y)))) =
  (let zz0 := (DV.bool (Rc.has ⟨a, b, c, d⟩ x y)); (True) ∧ (True) ∧ (True) ∧ (Ans Try.prog 27 [RV.agg [DV.int .i64 a, DV.int .i64 b, DV.int .i64 c, DV.int .i64 d]] (RV.d (DV.bool (Rc.empty ⟨a, b, c, d⟩)))) ∧ (True) ∧ (True) ∧ (((!(Rc.empty ⟨a, b, c, d⟩)) = true → (True) ∧ (True) ∧ (True) ∧ (True) ∧ (True) ∧ (True) ∧ (((decide (x ≥ a)) = true → (True) ∧ (True) ∧ (True) ∧ (True) ∧ (True) ∧ (True) ∧ (((decide (x < c)) = true → (True) ∧ (True) ∧ (True) ∧ (True) ∧ (True) ∧ (True) ∧ (((decide (y ≥ b)) = true → (True) ∧ (True) ∧ (True) ∧ (True) ∧ (True) ∧ (True) ∧ RV.d (DV.bool (decide (y < d))) = RV.d zz0) ∧ ((decide (y ≥ b)) = (!true) → (True) ∧ (True) ∧ RV.d (DV.bool false) = RV.d zz0))) ∧ ((decide (x < c)) = (!true) → (True) ∧ (True) ∧ (True) ∧ (True) ∧ RV.d (DV.bool false) = RV.d zz0))) ∧ ((decide (x ≥ a)) = (!true) → (True) ∧ (True) ∧ (True) ∧ (True) ∧ (True) ∧ (True) ∧ RV.d (DV.bool false) = RV.d zz0))) ∧ ((!(Rc.empty ⟨a, b, c, d⟩)) = (!true) → (True) ∧ (True) ∧ (True) ∧ (True) ∧ (True) ∧ (True) ∧ (True) ∧ (True) ∧ RV.d (DV.bool false) = RV.d zz0))) := by kernel_rfl
theorem R13_Contains_ans (a : Int) (b : Int) (c : Int) (d : Int) (x : Int) (y : Int) : Ans Try.prog 20 [RV.agg [DV.int .i64 a, DV.int .i64 b, DV.int .i64 c, DV.int .i64 d], RV.d (DV.int .i64 x), RV.d (DV.int .i64 y)] (RV.d (DV.bool (Rc.has ⟨a, b, c, d⟩ x y))) :=
  ans_of_vcg (Γ := gam) (R13_Contains_ann a b c d x y) mixed_ Try.func20 rfl (Nat.le_of_ble_eq_true rfl) fun hwf => by
    refine Eq.mpr (R13_Contains_vc a b c d x y) ?_
    simp only [true_and, and_true, RV.d.injEq, RV.agg.injEq, RV.tup.injEq, DV.bool.injEq, DV.int.injEq, List.cons.injEq, forall_const, Bool.not_false, Bool.not_true, Bool.not_eq_true', Bool.not_eq_false', R13_ValidRect_ans, G_Mod_ans, R13_Empty_ans, R13_clean_ans, R13_Area_ans]
    grind [Rc.has]

def R13_Intersect_ann (a : Int) (b : Int) (c : Int) (d : Int) (a' : Int) (b' : Int) (c' : Int) (d' : Int) : Ann := Ann.leaf
theorem R13_Intersect_vc (a : Int) (b : Int) (c : Int) (d : Int) (a' : Int) (b' : Int) (c' : Int) (d' : Int) : vcg Try.prog gam 34 (bodyOf Try.f29) (R13_Intersect_ann a b c d a' b' c' d') kn0 (start [RV.agg [DV.int .i64 a, DV.int .i64 b, DV.int .i64 c, DV.int .i64 d], RV.agg [DV.int .i64 a', DV.int .i64 b', DV.int .i64 c', DV.int .i64 d']]) (post Try.prog Try.f29.results.toList (· = RV.agg [DV.int .i64 ((Rc.inter ⟨a, b, c, d⟩ ⟨a', b', c', d'⟩).a), DV.int .i64 ((Rc.inter ⟨a, b, c, d⟩ ⟨a', b', c', d'⟩).b), DV.int .i64 ((Rc.inter ⟨a, b, c, d⟩ ⟨a', b', c', d'⟩).c), DV.int .i64 ((Rc.inter ⟨a, b, c, d⟩ ⟨a', b', c', d'⟩).d)])) =
  (let zz0 := [DV.int .i64 (0 : Int), DV.int .i64 (0 : Int), DV.int .i64 (0 : Int), DV.int .i64 (0 : Int)]; let zz1 := (Rc.inter ⟨a, b, c, d⟩ ⟨a', b', c', d'⟩); let zz2 := [DV.int .i64 (zz1.a), DV.int .i64 (zz1.b), DV.int .i64 (zz1.c), DV.int .i64 (zz1.d)]; let zz3 := (Rc.clean ⟨(max a a'), (max b b'), (min c c'), (min d d')⟩); let zz4 := [DV.int .i64 (zz3.a), DV.int .i64 (zz3.b), DV.int .i64 (zz3.c), DV.int .i64 (zz3.d)]; (True) ∧ (True) ∧ (True) ∧ (True) ∧ (Ans Try.prog 27 [RV.agg [DV.int .i64 a, DV.int .i64 b, DV.int .i64 c, DV.int .i64 d]] (RV.d (DV.bool (Rc.empty ⟨a, b, c, d⟩)))) ∧ (True) ∧ (((Rc.empty ⟨a, b, c, d⟩) = false → (True) ∧ (Ans Try.prog 27 [RV.agg [DV.int .i64 a', DV.int .i64 b', DV.int .i64 c', DV.int .i64 d']] (RV.d (DV.bool (Rc.empty ⟨a', b', c', d'⟩)))) ∧ (True) ∧ (((Rc.empty ⟨a', b', c', d'⟩) = true → (True) ∧ (True) ∧ RV.agg zz0 = RV.agg zz2) ∧ ((Rc.empty ⟨a', b', c', d'⟩) = false → (True) ∧ (True) ∧ (True) ∧ (True) ∧ (True) ∧ (True) ∧ (True) ∧ (True) ∧ (True) ∧ (True) ∧ (True) ∧ (True) ∧ (True) ∧ (True) ∧ (True) ∧ (True) ∧ (True) ∧ (True) ∧ (True) ∧ (True) ∧ (True) ∧ (Ans Try.prog 30 [RV.agg [DV.int .i64 (max a a'), DV.int .i64 (max b b'), DV.int .i64 (min c c'), DV.int .i64 (min d d')]] (RV.agg zz4)) ∧ (True) ∧ RV.agg zz4 = RV.agg zz2))) ∧ ((Rc.empty ⟨a, b, c, d⟩) = (!false) → (True) ∧ (True) ∧ (True) ∧ RV.agg zz0 = RV.agg zz2))) := by kernel_rfl
theorem R13_Intersect_ans (a : Int) (b : Int) (c : Int) (d : Int) (a' : Int) (b' : Int) (c' : Int) (d' : Int) : Ans Try.prog 29 [RV.agg [DV.int .i64 a, DV.int .i64 b, DV.int .i64 c, DV.int .i64 d], RV.agg [DV.int .i64 a', DV.int .i64 b', DV.int .i64 c', DV.int .i64 d']] (RV.agg [DV.int .i64 ((Rc.inter ⟨a, b, c, d⟩ ⟨a', b', c', d'⟩).a), DV.int .i64 ((Rc.inter ⟨a, b, c, d⟩ ⟨a', b', c', d'⟩).b), DV.int .i64 ((Rc.inter ⟨a, b, c, d⟩ ⟨a', b', c', d'⟩).c), DV.int .i64 ((Rc.inter ⟨a, b, c, d⟩ ⟨a', b', c', d'⟩).d)]) :=
  ans_of_vcg (Γ := gam) (R13_Intersect_ann a b c d a' b' c' d') mixed_ Try.func29 rfl (Nat.le_of_ble_eq_true rfl) fun hwf => by
    refine Eq.mpr (R13_Intersect_vc a b c d a' b' c' d') ?_
    simp only [true_and, and_true, RV.d.injEq, RV.agg.injEq, RV.tup.injEq, DV.bool.injEq, DV.int.injEq, List.cons.injEq, forall_const, Bool.not_false, Bool.not_true, Bool.not_eq_true', Bool.not_eq_false', R13_ValidRect_ans, G_Mod_ans, R13_Empty_ans, R13_clean_ans, R13_Area_ans, R13_Contains_ans]
    cases h1 : Rc.empty ⟨a, b, c, d⟩ <;> cases h2 : Rc.empty ⟨a', b', c', d'⟩ <;> simp [Rc.inter, h1, h2, Rc.zero]

def R13_Covers_ann (a : Int) (b : Int) (c : Int) (d : Int) (a' : Int) (b' : Int) (c' : Int) (d' : Int) : Ann := Ann.leaf
theorem R13_Covers_vc (a : Int) (b : Int) (c : Int) (d : Int) (a' : Int) (b' : Int) (c' : Int) (d' : Int) : vcg Try.prog gam 14 (bodyOf Try.f19) (R13_Covers_ann a b c d a' b' c' d') kn0 (start [RV.agg [DV.int .i64 a, DV.int .i64 b, DV.int .i64 c, DV.int .i64 d], RV.agg [DV.int .i64 a', DV.int .i64 b', DV.int .i64 c', DV.int .i64 d']]) (post Try.prog Try.f19.results.toList (· = RV.d (DV.bool (Rc.covers ⟨a, b, c, d⟩ ⟨a', b', c', d'⟩)))) =
  (let zz0 := [DV.int .i64 a', DV.int .i64 b', DV.int .i64 c', DV.int .i64 d']; let zz1 := (Rc.inter ⟨a, b, c, d⟩ ⟨a', b', c', d'⟩); let zz2 := (DV.bool (Rc.covers ⟨a, b, c, d⟩ ⟨a', b', c', d'⟩)); (True) ∧ (True) ∧ (True) ∧ (True) ∧ (Ans Try.prog 27 [RV.agg zz0] (RV.d (DV.bool (Rc.empty ⟨a', b', c', d'⟩)))) ∧ (True) ∧ (((Rc.empty ⟨a', b', c', d'⟩) = false → (True) ∧ (True) ∧ (Ans Try.prog 29 [RV.agg [DV.int .i64 a, DV.int .i64 b, DV.int .i64 c, DV.int .i64 d], RV.agg zz0] (RV.agg [DV.int .i64 (zz1.a), DV.int .i64 (zz1.b), DV.int .i64 (zz1.c), DV.int .i64 (zz1.d)])) ∧ (True) ∧ (True) ∧ (True) ∧ (True) ∧ (true = true) ∧ RV.d (DV.bool (((zz1.a) == a') && (((zz1.b) == b') && (((zz1.c) == c') && (((zz1.d) == d') && true))))) = RV.d zz2) ∧ ((Rc.empty ⟨a', b', c', d'⟩) = (!false) → (True) ∧ (True) ∧ (true = true) ∧ RV.d (DV.bool true) = RV.d zz2))) := by kernel_rfl
theorem R13_Covers_ans (a : Int) (b : Int) (c : Int) (d : Int) (a' : Int) (b' : Int) (c' : Int) (d' : Int) : Ans Try.prog 19 [RV.agg [DV.int .i64 a, DV.int .i64 b, DV.int .i64 c, DV.int .i64 d], RV.agg [DV.int .i64 a', DV.int .i64 b', DV.int .i64 c', DV.int .i64 d']] (RV.d (DV.bool (Rc.covers ⟨a, b, c, d⟩ ⟨a', b', c', d'⟩))) :=
  ans_of_vcg (Γ := gam) (R13_Covers_ann a b c d a' b' c' d') mixed_ Try.func19 rfl (Nat.le_of_ble_eq_true rfl) fun hwf => by
    refine Eq.mpr (R13_Covers_vc a b c d a' b' c' d') ?_
    simp only [true_and, and_true, RV.d.injEq, RV.agg.injEq, RV.tup.injEq, DV.bool.injEq, DV.int.injEq, List.cons.injEq, forall_const, Bool.not_false, Bool.not_true, Bool.not_eq_true', Bool.not_eq_false', R13_ValidRect_ans, G_Mod_ans, R13_Empty_ans, R13_clean_ans, R13_Area_ans, R13_Contains_ans, R13_Intersect_ans]
    refine ⟨fun h => ?_, fun h => by simp [Rc.covers, h]⟩
    rw [← Rc.covers_inter _ _ h]
    simp [Rc.eqB, Bool.and_assoc]

def rect_within_ann (l : Int) (n : Nat) (xs : List DV) : Ann := (Ann.seq Ann.leaf (Ann.seq (Ann.seq Ann.leaf (Ann.loop ⟨Nat, fun k => k ≤ n ∧ withinS l (xs.take k) = true, fun k => ⟨[(0, AV.one (Cl.d (DV.int .i64 l))), (1, AV.one (Cl.d (DV.sl n xs))), (7, AV.one (Cl.d (DV.sl n xs))), (8, AV.one (Cl.d (DV.int .i64 ((n : Nat) : Int)))), (9, AV.one (Cl.d (DV.int .i64 ((k : Nat) : Int))))], []⟩, fun k => n - k⟩ fun k => Ann.leaf)) Ann.leaf))
theorem rect_within_vc (l : Int) (n : Nat) (xs : List DV) : vcg Try.prog gam 23 (bodyOf Try.f34) (rect_within_ann l n xs) kn0 (start [RV.d (DV.int .i64 l), RV.d (DV.sl n xs)]) (post Try.prog Try.f34.results.toList (· = RV.d (DV.bool (withinS l xs)))) =
  (let zz0 := fun (k : Nat) => (k ≤ n ∧ withinS l (xs.take k) = true); let zz1 := (DV.int .i64 l = DV.int .i64 l); let zz2 := (DV.int .i64 ((n : Nat) : Int) = DV.int .i64 ((n : Nat) : Int)); (True) ∧ (True) ∧ (True) ∧ (True) ∧ ((∃ k : Nat, (zz0 k) ∧ ((zz1 ∧ (DV.sl n xs = DV.sl n xs) ∧ (DV.sl n xs = DV.sl n xs) ∧ zz2 ∧ (DV.int .i64 (0 : Int) = DV.int .i64 ((k : Nat) : Int)) ∧ True) ∧ (True))) ∧ ∀ k : Nat, (zz0 k) → (True) ∧ (((decide (((k : Nat) : Int) < ((n : Nat) : Int))) = true → (0 ≤ ((k : Nat) : Int) ∧ ((k : Nat) : Int) < ((n : Nat) : Int) ∧ ((k : Nat) : Int).toNat * 1 < xs.length) ∧ ((xs[((k : Nat) : Int).toNat * 1]? = some (DV.int .i64 (nAt xs (((k : Nat) : Int).toNat * 1)))) ∧ True) ∧ (True) ∧ (True) ∧ (True) ∧ (True) ∧ (True) ∧ (True) ∧ (((decide ((nAt xs (((k : Nat) : Int).toNat * 1)) < (IntKind.wrap .i64 (0 - l)))) = false → (True) ∧ (True) ∧ (True) ∧ (True) ∧ (((decide ((nAt xs (((k : Nat) : Int).toNat * 1)) > l)) = true → (True) ∧ RV.d (DV.bool false) = RV.d (DV.bool (withinS l xs))) ∧ ((decide ((nAt xs (((k : Nat) : Int).toNat * 1)) > l)) = false → (True) ∧ (True) ∧ ∃ k' : Nat, (k' ≤ n ∧ withinS l (xs.take k') = true) ∧ (n - k' < n - k) ∧ ((zz1 ∧ (DV.sl n xs = DV.sl n xs) ∧ (DV.sl n xs = DV.sl n xs) ∧ zz2 ∧ (DV.int .i64 (IntKind.wrap .i64 (((k : Nat) : Int) + (1 : Int))) = DV.int .i64 ((k' : Nat) : Int)) ∧ True) ∧ (True))))) ∧ ((decide ((nAt xs (((k : Nat) : Int).toNat * 1)) < (IntKind.wrap .i64 (0 - l)))) = (!false) → (True) ∧ (True) ∧ RV.d (DV.bool false) = RV.d (DV.bool (withinS l xs))))) ∧ ((decide (((k : Nat) : Int) < ((n : Nat) : Int))) = false → (True) ∧ RV.d (DV.bool true) = RV.d (DV.bool (withinS l xs)))))) := by kernel_rfl
theorem rect_within_ans (l : Int) (n : Nat) (xs : List DV) (hx : xs = is (ints xs)) (hn : n = xs.length) (hl : 0 ≤ l ∧ l ≤ 4611686018427387904) : Ans Try.prog 34 [RV.d (DV.int .i64 l), RV.d (DV.sl n xs)] (RV.d (DV.bool (withinS l xs))) :=
  ans_of_vcg (Γ := gam) (rect_within_ann l n xs) mixed_ Try.func34 rfl (Nat.le_of_ble_eq_true rfl) fun hwf => by
    refine Eq.mpr (rect_within_vc l n xs) ?_
    simp only [true_and, and_true, RV.d.injEq, RV.agg.injEq, RV.tup.injEq, DV.bool.injEq, DV.int.injEq, List.cons.injEq, forall_const, Bool.not_false, Bool.not_true, Bool.not_eq_true', Bool.not_eq_false', R13_ValidRect_ans, G_Mod_ans, R13_Empty_ans, R13_clean_ans, R13_Area_ans, R13_Contains_ans, R13_Intersect_ans, R13_Covers_ans]
    obtain ⟨L, rfl⟩ : ∃ L, xs = is L := ⟨_, hx⟩
    subst hn
    simp only [RV.wfs, RV.wf, DV.wf, is_length, IntKind.min, IntKind.max, IntKind.signed, IntKind.bits, and_true, maxLen] at hwf
    simp only [is_length, Int.toNat_natCast, Nat.mul_one, decide_eq_true_eq, decide_eq_false_iff_not]
    have hsucc : ∀ k (h : k < L.length), withinS l (is (L.take (k + 1))) = (withinS l (is (L.take k)) && (decide (-l ≤ L[k]) && decide (L[k] ≤ l))) := fun k h => by
      simp only [withinS, ints_is, List.take_add_one, List.all_append, List.getElem?_eq_getElem h, Option.toList_some, List.all_cons, List.all_nil, Bool.and_true]
    have htake : ∀ k, (is L).take k = is (L.take k) := fun k => by simp [is]
    have hall : ∀ k (h : k < L.length), withinS l (is L) = true → -l ≤ L[k] ∧ L[k] ≤ l := fun k h hw => by
      simp only [withinS, ints_is, List.all_eq_true] at hw
      have := hw L[k] (List.getElem_mem h)
      simpa using this
    refine ⟨⟨0, ⟨by omega, by simp [withinS, ints]⟩, rfl⟩, fun k hk => ⟨fun hlt => ?_, fun hge => ?_⟩⟩
    · have hlt' : k < L.length := by omega
      have h1 := hsucc k hlt'
      have h2 := hall k hlt'
      have hw := wf_is hwf.2.2 hlt'
      rw [nAt_is hlt', is_at hlt', IntWalk.i64_in (0 - l) ⟨by omega, by omega⟩]
      refine ⟨by omega, rfl, fun h3 => ⟨fun h4 => ?_, fun h4 => ⟨k + 1, ⟨by omega, ?_⟩, by omega, ?_⟩⟩, fun h3 => ?_⟩
      · cases h5 : withinS l (is L) with
        | false => rfl
        | true => have := h2 h5; omega
      · rw [htake, h1, ← htake, hk.2]; simp; omega
      · rw [IntWalk.i64_in _ ⟨by omega, by omega⟩]; omega
      · cases h5 : withinS l (is L) with
        | false => rfl
        | true => have := h2 h5; omega
    · have : k = L.length := by omega
      subst this
      have := hk.2
      rw [htake, List.take_length] at this
      exact this.symm

def rect_Valid_ann (a : Int) (b : Int) (c : Int) (d : Int) : Ann := Ann.leaf
theorem rect_Valid_vc (a : Int) (b : Int) (c : Int) (d : Int) : vcg Try.prog gam 13 (bodyOf Try.f32) (rect_Valid_ann a b c d) kn0 (start [RV.agg [DV.int .i64 a, DV.int .i64 b, DV.int .i64 c, DV.int .i64 d]]) (post Try.prog Try.f32.results.toList (· = RV.d (DV.bool (Rc.valid ⟨a, b, c, d⟩)))) =
  (let zz0 := (DV.bool (withinS (1073741824 : Int) ([DV.int .i64 a, DV.int .i64 b, DV.int .i64 c, DV.int .i64 d]))); (True) ∧ (True) ∧ (True) ∧ (True) ∧ (True) ∧ (True) ∧ (True) ∧ (True) ∧ (True) ∧ (True) ∧ (True) ∧ (Ans Try.prog 34 [RV.d (DV.int .i64 (1073741824 : Int)), RV.d (DV.sl 4 ([DV.int .i64 a, DV.int .i64 b, DV.int .i64 c, DV.int .i64 d]))] (RV.d zz0)) ∧ (True) ∧ RV.d zz0 = RV.d (DV.bool (Rc.valid ⟨a, b, c, d⟩))) := by kernel_rfl
theorem rect_Valid_ans (a : Int) (b : Int) (c : Int) (d : Int) : Ans Try.prog 32 [RV.agg [DV.int .i64 a, DV.int .i64 b, DV.int .i64 c, DV.int .i64 d]] (RV.d (DV.bool (Rc.valid ⟨a, b, c, d⟩))) :=
  ans_of_vcg (Γ := gam) (rect_Valid_ann a b c d) mixed_ Try.func32 rfl (Nat.le_of_ble_eq_true rfl) fun hwf => by
    refine Eq.mpr (rect_Valid_vc a b c d) ?_
    simp only [true_and, and_true, RV.d.injEq, RV.agg.injEq, RV.tup.injEq, DV.bool.injEq, DV.int.injEq, List.cons.injEq, forall_const, Bool.not_false, Bool.not_true, Bool.not_eq_true', Bool.not_eq_false', R13_ValidRect_ans, G_Mod_ans, R13_Empty_ans, R13_clean_ans, R13_Area_ans, R13_Contains_ans, R13_Intersect_ans, R13_Covers_ans]
    exact ⟨rect_within_ans _ _ _ rfl rfl (by omega), by grind [withinS, ints, Rc.valid, okC]⟩

def rect_Empty_ann (a : Int) (b : Int) (c : Int) (d : Int) : Ann := Ann.leaf
theorem rect_Empty_vc (a : Int) (b : Int) (c : Int) (d : Int) : vcg Try.prog gam 20 (bodyOf Try.f26) (rect_Empty_ann a b c d) kn0 (start [RV.agg [DV.int .i64 a, DV.int .i64 b, DV.int .i64 c, DV.int .i64 d]]) (post Try.prog Try.f26.results.toList (· = RV.d (DV.bool (Rc.empty ⟨a, b, c, d⟩)))) =
  (let zz0 := (DV.bool (Rc.empty ⟨a, b, c, d⟩)); (True) ∧ (True) ∧ (True) ∧ (Ans Try.prog 32 [RV.agg [DV.int .i64 a, DV.int .i64 b, DV.int .i64 c, DV.int .i64 d]] (RV.d (DV.bool (Rc.valid ⟨a, b, c, d⟩)))) ∧ (True) ∧ (True) ∧ (((!(Rc.valid ⟨a, b, c, d⟩)) = false → (True) ∧ (True) ∧ (True) ∧ (True) ∧ (True) ∧ (True) ∧ (True) ∧ (((decide (a ≥ c)) = false → (True) ∧ (True) ∧ (True) ∧ (True) ∧ (True) ∧ (True) ∧ (True) ∧ RV.d (DV.bool (decide (b ≥ d))) = RV.d zz0) ∧ ((decide (a ≥ c)) = (!false) → (True) ∧ (True) ∧ RV.d (DV.bool true) = RV.d zz0))) ∧ ((!(Rc.valid ⟨a, b, c, d⟩)) = (!false) → (True) ∧ (True) ∧ (True) ∧ (True) ∧ RV.d (DV.bool true) = RV.d zz0))) := by kernel_rfl
theorem rect_Empty_ans (a : Int) (b : Int) (c : Int) (d : Int) : Ans Try.prog 26 [RV.agg [DV.int .i64 a, DV.int .i64 b, DV.int .i64 c, DV.int .i64 d]] (RV.d (DV.bool (Rc.empty ⟨a, b, c, d⟩))) :=
  ans_of_vcg (Γ := gam) (rect_Empty_ann a b c d) mixed_ Try.func26 rfl (Nat.le_of_ble_eq_true rfl) fun hwf => by
    refine Eq.mpr (rect_Empty_vc a b c d) ?_
    simp only [true_and, and_true, RV.d.injEq, RV.agg.injEq, RV.tup.injEq, DV.bool.injEq, DV.int.injEq, List.cons.injEq, forall_const, Bool.not_false, Bool.not_true, Bool.not_eq_true', Bool.not_eq_false', R13_ValidRect_ans, G_Mod_ans, R13_Empty_ans, R13_clean_ans, R13_Area_ans, R13_Contains_ans, R13_Intersect_ans, R13_Covers_ans, rect_Valid_ans]
    grind [Rc.empty]

def rect_Contains_ann (a : Int) (b : Int) (c : Int) (d : Int) (x : Int) (y : Int) : Ann := Ann.leaf
theorem rect_Contains_vc (a : Int) (b : Int) (c : Int) (d : Int) (x : Int) (y : Int) : vcg Try.prog gam 34 (bodyOf Try.f28) (rect_Contains_ann a b c d x y) kn0 (start [RV.agg [DV.int .i64 a, DV.int .i64 b, DV.int .i64 c, DV.int .i64 d], RV.d (DV.int .i64 x), RV.d (DV.int .i64 y)]) (post Try.prog Try.f28.results.toList (· = RV.d (DV.bool (Rc.has ⟨a, b, c, d⟩ x y)))) =
  (let zz0 := (DV.bool (Rc.has ⟨a, b, c, d⟩ x y)); (True) ∧ (True) ∧ (True) ∧ (Ans Try.prog 26 [RV.agg [DV.int .i64 a, DV.int .i64 b, DV.int .i64 c, DV.int .i64 d]] (RV.d (DV.bool (Rc.empty ⟨a, b, c, d⟩)))) ∧ (True) ∧ (True) ∧ (((!(Rc.empty ⟨a, b, c, d⟩)) = true → (True) ∧ (True) ∧ (True) ∧ (True) ∧ (True) ∧ (True) ∧ (((decide (a ≤ x)) = true → (True) ∧ (True) ∧ (True) ∧ (True) ∧ (True) ∧ (True) ∧ (((decide (x < c)) = true → (True) ∧ (True) ∧ (True) ∧ (True) ∧ (True) ∧ (True) ∧ (((decide (b ≤ y)) = true → (True) ∧ (True) ∧ (True) ∧ (True) ∧ (True) ∧ (True) ∧ RV.d (DV.bool (decide (y < d))) = RV.d zz0) ∧ ((decide (b ≤ y)) = (!true) → (True) ∧ (True) ∧ RV.d (DV.bool false) = RV.d zz0))) ∧ ((decide (x < c)) = (!true) → (True) ∧ (True) ∧ (True) ∧ (True) ∧ RV.d (DV.bool false) = RV.d zz0))) ∧ ((decide (a ≤ x)) = (!true) → (True) ∧ (True) ∧ (True) ∧ (True) ∧ (True) ∧ (True) ∧ RV.d (DV.bool false) = RV.d zz0))) ∧ ((!(Rc.empty ⟨a, b, c, d⟩)) = (!true) → (True) ∧ (True) ∧ (True) ∧ (True) ∧ (True) ∧ (True) ∧ (True) ∧ (True) ∧ RV.d (DV.bool false) = RV.d zz0))) := by kernel_rfl
theorem rect_Contains_ans (a : Int) (b : Int) (c : Int) (d : Int) (x : Int) (y : Int) : Ans Try.prog 28 [RV.agg [DV.int .i64 a, DV.int .i64 b, DV.int .i64 c, DV.int .i64 d], RV.d (DV.int .i64 x), RV.d (DV.int .i64 y)] (RV.d (DV.bool (Rc.has ⟨a, b, c, d⟩ x y))) :=
  ans_of_vcg (Γ := gam) (rect_Contains_ann a b c d x y) mixed_ Try.func28 rfl (Nat.le_of_ble_eq_true rfl) fun hwf => by
    refine Eq.mpr (rect_Contains_vc a b c d x y) ?_
    simp only [true_and, and_true, RV.d.injEq, RV.agg.injEq, RV.tup.injEq, DV.bool.injEq, DV.int.injEq, List.cons.injEq, forall_const, Bool.not_false, Bool.not_true, Bool.not_eq_true', Bool.not_eq_false', R13_ValidRect_ans, G_Mod_ans, R13_Empty_ans, R13_clean_ans, R13_Area_ans, R13_Contains_ans, R13_Intersect_ans, R13_Covers_ans, rect_Valid_ans, rect_Empty_ans]
    grind [Rc.has]

end Go.Proofs.Ytoljdijpmnadpaa
