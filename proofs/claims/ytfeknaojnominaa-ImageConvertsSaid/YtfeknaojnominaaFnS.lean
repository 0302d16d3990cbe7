/-
  Depths of samples and conversions of pixels.
-/
import Derived.Test.YtfeknaojnominaaFnI7
import Derived.Test.YtfeknaojnominaaSpS
namespace Go.Proofs.Ytfeknaojnominaa
open Go.RowKit
set_option linter.unusedVariables false
set_option linter.unusedSimpArgs false
attribute [local irreducible] Ans AnsO AnsG AnsN AnsI

set_option maxRecDepth 4000
def gamS : Gam where
 pure := fun f xs =>
  if f = 86 then (match xs with | [.d (.int _ n)] => some (RV.d (DV.int .u64 (halfS n 65535))) | _ => none) else
  if f = 87 then (match xs with | [.d (.int _ n), .d (.int _ d)] => some (RV.d (DV.int .u64 (halfS n d))) | _ => none) else
  if f = 82 then (match xs with | [.d (.int _ v)] => some (RV.d (DV.int .u16 (to16 v))) | _ => none) else
  if f = 83 then (match xs with | [.d (.int _ v)] => some (RV.d (DV.int .u16 (to8 v))) | _ => none) else
  if f = 73 then (match xs with | [.agg [.int _ c0, .int _ c1, .int _ c2, .int _ ca, .int _ cf]] => some (RV.agg [DV.int .u16 ((Px.map to16 ⟨c0, c1, c2, ca, cf⟩).a), DV.int .u16 ((Px.map to16 ⟨c0, c1, c2, ca, cf⟩).b), DV.int .u16 ((Px.map to16 ⟨c0, c1, c2, ca, cf⟩).c), DV.int .u16 ((Px.map to16 ⟨c0, c1, c2, ca, cf⟩).al), DV.int .u16 ((Px.map to16 ⟨c0, c1, c2, ca, cf⟩).f)]) | _ => none) else
  if f = 74 then (match xs with | [.agg [.int _ c0, .int _ c1, .int _ c2, .int _ ca, .int _ cf]] => some (RV.agg [DV.int .u16 ((Px.map to8 ⟨c0, c1, c2, ca, cf⟩).a), DV.int .u16 ((Px.map to8 ⟨c0, c1, c2, ca, cf⟩).b), DV.int .u16 ((Px.map to8 ⟨c0, c1, c2, ca, cf⟩).c), DV.int .u16 ((Px.map to8 ⟨c0, c1, c2, ca, cf⟩).al), DV.int .u16 ((Px.map to8 ⟨c0, c1, c2, ca, cf⟩).f)]) | _ => none) else
  if f = 84 then (match xs with | [.d (.int _ v)] => some (RV.d (DV.int .u16 (to16 v))) | _ => none) else
  if f = 85 then (match xs with | [.d (.int _ v)] => some (RV.d (DV.int .u16 (to8 v))) | _ => none) else
  if f = 76 then (match xs with | [.agg [.int _ c0, .int _ c1, .int _ c2, .int _ ca, .int _ cf]] => some (RV.agg [DV.int .u16 ((Px.map to16 ⟨c0, c1, c2, ca, cf⟩).a), DV.int .u16 ((Px.map to16 ⟨c0, c1, c2, ca, cf⟩).b), DV.int .u16 ((Px.map to16 ⟨c0, c1, c2, ca, cf⟩).c), DV.int .u16 ((Px.map to16 ⟨c0, c1, c2, ca, cf⟩).al), DV.int .u16 ((Px.map to16 ⟨c0, c1, c2, ca, cf⟩).f)]) | _ => none) else
  if f = 77 then (match xs with | [.agg [.int _ c0, .int _ c1, .int _ c2, .int _ ca, .int _ cf]] => some (RV.agg [DV.int .u16 ((Px.map to8 ⟨c0, c1, c2, ca, cf⟩).a), DV.int .u16 ((Px.map to8 ⟨c0, c1, c2, ca, cf⟩).b), DV.int .u16 ((Px.map to8 ⟨c0, c1, c2, ca, cf⟩).c), DV.int .u16 ((Px.map to8 ⟨c0, c1, c2, ca, cf⟩).al), DV.int .u16 ((Px.map to8 ⟨c0, c1, c2, ca, cf⟩).f)]) | _ => none) else
  if f = 81 then (match xs with | [.agg [.int _ c0, .int _ c1, .int _ c2, .int _ ca, .int _ cf], .d (.fn 82)] => some (RV.agg [DV.int .u16 ((Px.map to16 ⟨c0, c1, c2, ca, cf⟩).a), DV.int .u16 ((Px.map to16 ⟨c0, c1, c2, ca, cf⟩).b), DV.int .u16 ((Px.map to16 ⟨c0, c1, c2, ca, cf⟩).c), DV.int .u16 ((Px.map to16 ⟨c0, c1, c2, ca, cf⟩).al), DV.int .u16 ((Px.map to16 ⟨c0, c1, c2, ca, cf⟩).f)]) | [.agg [.int _ c0, .int _ c1, .int _ c2, .int _ ca, .int _ cf], .d (.fn 83)] => some (RV.agg [DV.int .u16 ((Px.map to8 ⟨c0, c1, c2, ca, cf⟩).a), DV.int .u16 ((Px.map to8 ⟨c0, c1, c2, ca, cf⟩).b), DV.int .u16 ((Px.map to8 ⟨c0, c1, c2, ca, cf⟩).c), DV.int .u16 ((Px.map to8 ⟨c0, c1, c2, ca, cf⟩).al), DV.int .u16 ((Px.map to8 ⟨c0, c1, c2, ca, cf⟩).f)]) | _ => none) else
  none
 modes := fun f =>
  none
 proc := fun f xs bs =>
  none
 iter := fun f cs =>
  none

def sample_Max_ann (b : Int) : Ann := Ann.leaf
theorem sample_Max_vc (b : Int) : vcg Try.prog gamS 9 (bodyOf Try.f60) (sample_Max_ann b) kn0 (start [RV.d (DV.int .i64 b)]) (post Try.prog Try.f60.results.toList (· = RV.tup [RV.d (DV.int .u16 (depthMax b)), RV.d (DV.bool (depthOk b))])) =
  (let zz0 := [RV.d (DV.int .u16 (depthMax b)), RV.d (DV.bool (depthOk b))]; True ∧ True ∧ True ∧ True ∧ True ∧ (((b == (8 : Int)) = true → True ∧ True ∧ RV.tup [RV.d (DV.int .u16 255), RV.d (DV.bool true)] = RV.tup zz0) ∧ ((b == (8 : Int)) = false → True ∧ True ∧ (((b == (16 : Int)) = true → True ∧ True ∧ RV.tup [RV.d (DV.int .u16 65535), RV.d (DV.bool true)] = RV.tup zz0) ∧ ((b == (16 : Int)) = false → True ∧ True ∧ RV.tup [RV.d (DV.int .u16 0), RV.d (DV.bool false)] = RV.tup zz0))))) := by kernel_rfl
theorem sample_Max_ans (b : Int) : Ans Try.prog 60 [RV.d (DV.int .i64 b)] (RV.tup [RV.d (DV.int .u16 (depthMax b)), RV.d (DV.bool (depthOk b))]) :=
  ans_of_vcg (Γ := gamS) (sample_Max_ann b) mixed_ Try.func60 rfl (Nat.le_of_ble_eq_true rfl) fun hwf => by
    refine Eq.mpr (sample_Max_vc b) ?_
    simp only [true_and, and_true, RV.d.injEq, RV.agg.injEq, RV.tup.injEq, DV.bool.injEq, DV.int.injEq, DV.sl.injEq, List.cons.injEq, forall_const, Bool.not_false, Bool.not_true, Bool.not_eq_true', Bool.not_eq_false', decide_eq_true_eq, decide_eq_false_iff_not, Int.toNat_natCast]
    simp [depthMax, depthOk]; grind

def R01_Max_ann (b : Int) : Ann := Ann.leaf
theorem R01_Max_vc (b : Int) : vcg Try.prog gamS 9 (bodyOf Try.f62) (R01_Max_ann b) kn0 (start [RV.d (DV.int .i64 b)]) (post Try.prog Try.f62.results.toList (· = RV.tup [RV.d (DV.int .u16 (depthMax b)), RV.d (DV.bool (depthOk b))])) =
  (let zz0 := [RV.d (DV.int .u16 (depthMax b)), RV.d (DV.bool (depthOk b))]; True ∧ True ∧ True ∧ True ∧ True ∧ (((b == (8 : Int)) = true → True ∧ True ∧ RV.tup [RV.d (DV.int .u16 255), RV.d (DV.bool true)] = RV.tup zz0) ∧ ((b == (8 : Int)) = false → True ∧ True ∧ (((b == (16 : Int)) = true → True ∧ True ∧ RV.tup [RV.d (DV.int .u16 65535), RV.d (DV.bool true)] = RV.tup zz0) ∧ ((b == (16 : Int)) = false → True ∧ True ∧ RV.tup [RV.d (DV.int .u16 0), RV.d (DV.bool false)] = RV.tup zz0))))) := by kernel_rfl
theorem R01_Max_ans (b : Int) : Ans Try.prog 62 [RV.d (DV.int .i64 b)] (RV.tup [RV.d (DV.int .u16 (depthMax b)), RV.d (DV.bool (depthOk b))]) :=
  ans_of_vcg (Γ := gamS) (R01_Max_ann b) mixed_ Try.func62 rfl (Nat.le_of_ble_eq_true rfl) fun hwf => by
    refine Eq.mpr (R01_Max_vc b) ?_
    simp only [true_and, and_true, RV.d.injEq, RV.agg.injEq, RV.tup.injEq, DV.bool.injEq, DV.int.injEq, DV.sl.injEq, List.cons.injEq, forall_const, Bool.not_false, Bool.not_true, Bool.not_eq_true', Bool.not_eq_false', decide_eq_true_eq, decide_eq_false_iff_not, Int.toNat_natCast, sample_Max_ans]
    simp [depthMax, depthOk]; grind

def round_By65535_ann (n : Int) : Ann := (Ann.seq Ann.leaf (Ann.seq Ann.leaf (Ann.seq (Ann.loop ⟨Int × Int, fun z => n = 65535 * z.1 + z.2 ∧ 0 ≤ z.2 ∧ z.2 ≤ 4294967295 ∧ 0 ≤ z.1, fun z => ⟨[(0, AV.one (Cl.d (DV.int .u64 z.2))), (3, AV.one (Cl.d (DV.int .u64 z.1)))], []⟩, fun z => z.2.toNat⟩ fun z => Ann.leaf) Ann.leaf)))
theorem round_By65535_vc (n : Int) : vcg Try.prog gamS 20 (bodyOf Try.f86) (round_By65535_ann n) kn0 (start [RV.d (DV.int .u64 n)]) (post Try.prog Try.f86.results.toList (· = RV.d (DV.int .u64 (halfS n 65535)))) =
  (let zz0 := fun (z : Int × Int) => (n = 65535 * z.1 + z.2 ∧ 0 ≤ z.2 ∧ z.2 ≤ 4294967295 ∧ 0 ≤ z.1); let zz1 := (DV.int .u64 (halfS n 65535)); True ∧ True ∧ ((∃ z : Int × Int, (zz0 z) ∧ (((DV.int .u64 n = DV.int .u64 z.2) ∧ (DV.int .u64 (0 : Int) = DV.int .u64 z.1) ∧ True) ∧ (True))) ∧ ∀ z : Int × Int, (zz0 z) → True ∧ True ∧ (((decide (z.2 > (65535 : Int))) = true → True ∧ True ∧ (0 ≤ (16 : Int)) ∧ True ∧ True ∧ True ∧ (0 ≤ (16 : Int)) ∧ True ∧ True ∧ True ∧ True ∧ ∃ z' : Int × Int, (n = 65535 * z'.1 + z'.2 ∧ 0 ≤ z'.2 ∧ z'.2 ≤ 4294967295 ∧ 0 ≤ z'.1) ∧ (z'.2.toNat < z.2.toNat) ∧ (((DV.int .u64 (IntKind.wrap .u64 ((Int.fdiv z.2 (2 ^ min (16 : Int).toNat 64)) + (IntKind.wrap .u64 (BitVec.ofInt 64 z.2 &&& BitVec.ofInt 64 (65535 : Int)).toNat))) = DV.int .u64 z'.2) ∧ (DV.int .u64 (IntKind.wrap .u64 (z.1 + (Int.fdiv z.2 (2 ^ min (16 : Int).toNat 64)))) = DV.int .u64 z'.1) ∧ True) ∧ (True))) ∧ ((decide (z.2 > (65535 : Int))) = false → True ∧ True ∧ (((decide (z.2 ≥ (32768 : Int))) = true → True ∧ True ∧ True ∧ True ∧ True ∧ RV.d (DV.int .u64 (IntKind.wrap .u64 (z.1 + (1 : Int)))) = RV.d zz1) ∧ ((decide (z.2 ≥ (32768 : Int))) = false → True ∧ True ∧ RV.d (DV.int .u64 z.1) = RV.d zz1)))))) := by kernel_rfl
theorem round_By65535_ans (n : Int) (h : 0 ≤ n ∧ n ≤ 4294967295) : Ans Try.prog 86 [RV.d (DV.int .u64 n)] (RV.d (DV.int .u64 (halfS n 65535))) :=
  ans_of_vcg (Γ := gamS) (round_By65535_ann n) mixed_ Try.func86 rfl (Nat.le_of_ble_eq_true rfl) fun hwf => by
    refine Eq.mpr (round_By65535_vc n) ?_
    simp only [true_and, and_true, RV.d.injEq, RV.agg.injEq, RV.tup.injEq, DV.bool.injEq, DV.int.injEq, DV.sl.injEq, List.cons.injEq, forall_const, Bool.not_false, Bool.not_true, Bool.not_eq_true', Bool.not_eq_false', decide_eq_true_eq, decide_eq_false_iff_not, Int.toNat_natCast, sample_Max_ans, R01_Max_ans]
    refine ⟨⟨(0, n), ⟨by omega, h.1, h.2, by omega⟩, ⟨rfl, rfl⟩⟩, fun z hz => ⟨fun q1 => ?_, fun q1 => ?_⟩⟩
    · obtain ⟨q, m⟩ := z
      obtain ⟨e1, e2, e3, e4⟩ := hz
      simp only at e1 e2 e3 e4 q1 ⊢
      have f1 : Int.fdiv m (2 ^ min (Int.toNat 16) 64) = m / 65536 := by
        rw [show ((2 : Int) ^ min (Int.toNat 16) 64) = 65536 from by decide]
        exact Int.fdiv_eq_ediv_of_nonneg _ (by omega)
      have f2 := and65535 (n := m) e2 (by omega)
      simp only [f1, f2]
      rw [IntWalk.u64_in (q + m / 65536) ⟨by omega, by omega⟩, IntWalk.u64_in (m % 65536) ⟨by omega, by omega⟩, IntWalk.u64_in (m / 65536 + m % 65536) ⟨by omega, by omega⟩]
      exact ⟨by decide, by decide, (q + m / 65536, m / 65536 + m % 65536), ⟨by simp only; omega, by simp only; omega, by simp only; omega, by simp only; omega⟩, by simp only; omega, rfl, rfl⟩
    · obtain ⟨q, m⟩ := z
      obtain ⟨e1, e2, e3, e4⟩ := hz
      simp only at e1 e2 e3 e4 q1 ⊢
      have hh := half_of e1 e2 (by omega)
      refine ⟨fun q2 => ?_, fun q2 => ?_⟩
      · rw [hh, if_pos q2, IntWalk.u64_in _ ⟨by omega, by omega⟩]
      · rw [hh, if_neg q2]; omega

def sample_To16_ann (v : Int) : Ann := Ann.leaf
theorem sample_To16_vc (v : Int) : vcg Try.prog gamS 6 (bodyOf Try.f82) (sample_To16_ann v) kn0 (start [RV.d (DV.int .u16 v)]) (post Try.prog Try.f82.results.toList (· = RV.d (DV.int .u16 (to16 v)))) =
  (True ∧ True ∧ True ∧ True ∧ True ∧ RV.d (DV.int .u16 (IntKind.wrap .u16 ((min v (255 : Int)) * (257 : Int)))) = RV.d (DV.int .u16 (to16 v))) := by kernel_rfl
theorem sample_To16_ans (v : Int) : Ans Try.prog 82 [RV.d (DV.int .u16 v)] (RV.d (DV.int .u16 (to16 v))) :=
  ans_of_vcg (Γ := gamS) (sample_To16_ann v) mixed_ Try.func82 rfl (Nat.le_of_ble_eq_true rfl) fun hwf => by
    refine Eq.mpr (sample_To16_vc v) ?_
    simp only [true_and, and_true, RV.d.injEq, RV.agg.injEq, RV.tup.injEq, DV.bool.injEq, DV.int.injEq, DV.sl.injEq, List.cons.injEq, forall_const, Bool.not_false, Bool.not_true, Bool.not_eq_true', Bool.not_eq_false', decide_eq_true_eq, decide_eq_false_iff_not, Int.toNat_natCast, sample_Max_ans, R01_Max_ans]
    unfold to16
    simp only [RV.wfs, RV.wf, DV.wf] at hwf
    have m1 : IntKind.min .u16 = 0 := rfl
    rw [m1] at hwf
    rw [IntWalk.u16_in _ ⟨by omega, by omega⟩]
    omega

def R01_To16_ann (v : Int) : Ann := Ann.leaf
theorem R01_To16_vc (v : Int) : vcg Try.prog gamS 7 (bodyOf Try.f84) (R01_To16_ann v) kn0 (start [RV.d (DV.int .u16 v)]) (post Try.prog Try.f84.results.toList (· = RV.d (DV.int .u16 (to16 v)))) =
  (True ∧ True ∧ True ∧ (((decide (v > (255 : Int))) = true → True ∧ RV.d (DV.int .u16 65535) = RV.d (DV.int .u16 (to16 v))) ∧ ((decide (v > (255 : Int))) = false → True ∧ True ∧ True ∧ RV.d (DV.int .u16 (IntKind.wrap .u16 ((257 : Int) * v))) = RV.d (DV.int .u16 (to16 v))))) := by kernel_rfl
theorem R01_To16_ans (v : Int) : Ans Try.prog 84 [RV.d (DV.int .u16 v)] (RV.d (DV.int .u16 (to16 v))) :=
  ans_of_vcg (Γ := gamS) (R01_To16_ann v) mixed_ Try.func84 rfl (Nat.le_of_ble_eq_true rfl) fun hwf => by
    refine Eq.mpr (R01_To16_vc v) ?_
    simp only [true_and, and_true, RV.d.injEq, RV.agg.injEq, RV.tup.injEq, DV.bool.injEq, DV.int.injEq, DV.sl.injEq, List.cons.injEq, forall_const, Bool.not_false, Bool.not_true, Bool.not_eq_true', Bool.not_eq_false', decide_eq_true_eq, decide_eq_false_iff_not, Int.toNat_natCast, sample_Max_ans, R01_Max_ans, sample_To16_ans]
    unfold to16
    simp only [RV.wfs, RV.wf, DV.wf] at hwf
    have m1 : IntKind.min .u16 = 0 := rfl
    rw [m1] at hwf
    refine ⟨fun q => by omega, fun q => ?_⟩
    rw [IntWalk.u16_in _ ⟨by omega, by omega⟩]
    omega

def R01_Half_ann (n : Int) (d : Int) : Ann := Ann.leaf
theorem R01_Half_vc (n : Int) (d : Int) : vcg Try.prog gamS 23 (bodyOf Try.f87) (R01_Half_ann n d) kn0 (start [RV.d (DV.int .u64 n), RV.d (DV.int .u64 d)]) (post Try.prog Try.f87.results.toList (· = RV.d (DV.int .u64 (halfS n d)))) =
  (let zz0 := (IntKind.wrap .u64 (Int.tdiv n d)); True ∧ True ∧ True ∧ (((d == (0 : Int)) = true → True ∧ RV.d (DV.int .u64 (0 : Int)) = RV.d (DV.int .u64 (halfS n d))) ∧ ((d == (0 : Int)) = false → True ∧ True ∧ (d ≠ 0) ∧ True ∧ True ∧ (d ≠ 0) ∧ True ∧ True ∧ (true = true) ∧ True ∧ True ∧ True ∧ True ∧ True ∧ (((decide ((Int.tmod n d) ≥ (IntKind.wrap .u64 (d - (Int.tmod n d))))) = true → True ∧ True ∧ True ∧ True ∧ True ∧ RV.d (DV.int .u64 (IntKind.wrap .u64 (zz0 + (1 : Int)))) = RV.d (DV.int .u64 (halfS n d))) ∧ ((decide ((Int.tmod n d) ≥ (IntKind.wrap .u64 (d - (Int.tmod n d))))) = false → True ∧ True ∧ RV.d (DV.int .u64 zz0) = RV.d (DV.int .u64 (halfS n d))))))) := by kernel_rfl
theorem R01_Half_ans (n : Int) (d : Int) : Ans Try.prog 87 [RV.d (DV.int .u64 n), RV.d (DV.int .u64 d)] (RV.d (DV.int .u64 (halfS n d))) :=
  ans_of_vcg (Γ := gamS) (R01_Half_ann n d) mixed_ Try.func87 rfl (Nat.le_of_ble_eq_true rfl) fun hwf => by
    refine Eq.mpr (R01_Half_vc n d) ?_
    simp only [true_and, and_true, RV.d.injEq, RV.agg.injEq, RV.tup.injEq, DV.bool.injEq, DV.int.injEq, DV.sl.injEq, List.cons.injEq, forall_const, Bool.not_false, Bool.not_true, Bool.not_eq_true', Bool.not_eq_false', decide_eq_true_eq, decide_eq_false_iff_not, Int.toNat_natCast, sample_Max_ans, R01_Max_ans, sample_To16_ans, R01_To16_ans]
    simp only [RV.wfs, RV.wf, DV.wf] at hwf
    have m1 : IntKind.min .u64 = 0 := rfl
    have m2 : IntKind.max .u64 = 18446744073709551615 := rfl
    rw [m1, m2] at hwf
    have t1 : Int.tdiv n d = n / d := Int.tdiv_eq_ediv_of_nonneg (by omega)
    have t2 : Int.tmod n d = n % d := Int.tmod_eq_emod_of_nonneg (by omega)
    refine ⟨fun q => by (have q : d = 0 := (by simpa using q)); simp [halfS, q], fun q => ?_⟩
    have q : d ≠ 0 := by simpa using q
    have b1 : 0 ≤ n % d := Int.emod_nonneg _ q
    have b2 : n % d < d := Int.emod_lt_of_pos _ (by omega)
    have b3 : 0 ≤ n / d := Int.ediv_nonneg (by omega) (by omega)
    have b4 : n / d ≤ n := Int.ediv_le_self _ (by omega)
    simp only [t1, t2]
    rw [IntWalk.u64_in (n / d) ⟨b3, by omega⟩, IntWalk.u64_in (d - n % d) ⟨by omega, by omega⟩]
    refine ⟨q, q, fun q2 => ?_, fun q2 => ?_⟩
    · have b5 : d ≥ 2 ∨ d = 1 := by omega
      have b6 : n / d + 1 ≤ 18446744073709551615 := by
        rcases b5 with b5 | b5
        · have : n / d < n ∨ n = 0 := by
            by_cases hn : n = 0
            · exact .inr hn
            · exact .inl (Int.ediv_lt_self_of_pos_of_ne_one (by omega) (by omega))
          rcases this with h | h
          · omega
          · subst h; simp
        · subst b5; omega
      rw [IntWalk.u64_in _ ⟨by omega, b6⟩]
      simp [halfS, q]; omega
    · simp [halfS, q]; omega

def sample_To8_ann (v : Int) : Ann := Ann.leaf
theorem sample_To8_vc (v : Int) : vcg Try.prog gamS 8 (bodyOf Try.f83) (sample_To8_ann v) kn0 (start [RV.d (DV.int .u16 v)]) (post Try.prog Try.f83.results.toList (· = RV.d (DV.int .u16 (to8 v)))) =
  (let zz0 := (IntKind.wrap .u64 ((IntKind.wrap .u64 v) * (255 : Int))); True ∧ True ∧ True ∧ True ∧ (Ans Try.prog 86 [RV.d (DV.int .u64 zz0)] (RV.d (DV.int .u64 (halfS zz0 65535)))) ∧ True ∧ True ∧ RV.d (DV.int .u16 (IntKind.wrap .u16 (halfS zz0 65535))) = RV.d (DV.int .u16 (to8 v))) := by kernel_rfl
theorem sample_To8_ans (v : Int) : Ans Try.prog 83 [RV.d (DV.int .u16 v)] (RV.d (DV.int .u16 (to8 v))) :=
  ans_of_vcg (Γ := gamS) (sample_To8_ann v) mixed_ Try.func83 rfl (Nat.le_of_ble_eq_true rfl) fun hwf => by
    refine Eq.mpr (sample_To8_vc v) ?_
    simp only [true_and, and_true, RV.d.injEq, RV.agg.injEq, RV.tup.injEq, DV.bool.injEq, DV.int.injEq, DV.sl.injEq, List.cons.injEq, forall_const, Bool.not_false, Bool.not_true, Bool.not_eq_true', Bool.not_eq_false', decide_eq_true_eq, decide_eq_false_iff_not, Int.toNat_natCast, sample_Max_ans, R01_Max_ans, sample_To16_ans, R01_To16_ans, R01_Half_ans]
    simp only [RV.wfs, RV.wf, DV.wf] at hwf
    have m1 : IntKind.min .u16 = 0 := rfl
    have m2 : IntKind.max .u16 = 65535 := rfl
    rw [m1, m2] at hwf
    obtain ⟨b1, b2⟩ := to8_in hwf.1.1 hwf.1.2
    rw [IntWalk.u64_in v ⟨by omega, by omega⟩, IntWalk.u64_in (v * 255) ⟨by omega, by omega⟩]
    change 0 ≤ halfS (v * 255) 65535 at b1
    change halfS (v * 255) 65535 ≤ 255 at b2
    exact ⟨round_By65535_ans _ ⟨by omega, by omega⟩, by rw [IntWalk.u16_in _ ⟨b1, by omega⟩]; rfl⟩

def R01_To8_ann (v : Int) : Ann := Ann.leaf
theorem R01_To8_vc (v : Int) : vcg Try.prog gamS 8 (bodyOf Try.f85) (R01_To8_ann v) kn0 (start [RV.d (DV.int .u16 v)]) (post Try.prog Try.f85.results.toList (· = RV.d (DV.int .u16 (to8 v)))) =
  (let zz0 := (IntKind.wrap .u64 ((IntKind.wrap .u64 v) * (255 : Int))); True ∧ True ∧ True ∧ True ∧ (Ans Try.prog 87 [RV.d (DV.int .u64 zz0), RV.d (DV.int .u64 (65535 : Int))] (RV.d (DV.int .u64 (halfS zz0 (65535 : Int))))) ∧ True ∧ True ∧ RV.d (DV.int .u16 (IntKind.wrap .u16 (halfS zz0 (65535 : Int)))) = RV.d (DV.int .u16 (to8 v))) := by kernel_rfl
theorem R01_To8_ans (v : Int) : Ans Try.prog 85 [RV.d (DV.int .u16 v)] (RV.d (DV.int .u16 (to8 v))) :=
  ans_of_vcg (Γ := gamS) (R01_To8_ann v) mixed_ Try.func85 rfl (Nat.le_of_ble_eq_true rfl) fun hwf => by
    refine Eq.mpr (R01_To8_vc v) ?_
    simp only [true_and, and_true, RV.d.injEq, RV.agg.injEq, RV.tup.injEq, DV.bool.injEq, DV.int.injEq, DV.sl.injEq, List.cons.injEq, forall_const, Bool.not_false, Bool.not_true, Bool.not_eq_true', Bool.not_eq_false', decide_eq_true_eq, decide_eq_false_iff_not, Int.toNat_natCast, sample_Max_ans, R01_Max_ans, sample_To16_ans, R01_To16_ans, R01_Half_ans, sample_To8_ans]
    simp only [RV.wfs, RV.wf, DV.wf] at hwf
    have m1 : IntKind.min .u16 = 0 := rfl
    have m2 : IntKind.max .u16 = 65535 := rfl
    rw [m1, m2] at hwf
    obtain ⟨b1, b2⟩ := to8_in hwf.1.1 hwf.1.2
    rw [IntWalk.u64_in v ⟨by omega, by omega⟩, IntWalk.u64_in (v * 255) ⟨by omega, by omega⟩]
    change 0 ≤ halfS (v * 255) 65535 at b1
    change halfS (v * 255) 65535 ≤ 255 at b2
    rw [IntWalk.u16_in _ ⟨b1, by omega⟩]; rfl

def sample_applyTo16_ann (p : Px) : Ann := let zz0 := (1, AV.one (Cl.d (DV.fn 82))); let zz1 := (8, AV.agg [Cl.d (DV.int .u16 p.a), Cl.d (DV.int .u16 p.b), Cl.d (DV.int .u16 p.c)]); let zz2 := (4, Bx.cells [Cl.d (DV.int .u16 0), Cl.d (DV.int .u16 0), Cl.d (DV.int .u16 0), Cl.d (DV.int .u16 0), Cl.d (DV.int .u16 0)]); (Ann.seq Ann.leaf (Ann.seq (Ann.seq Ann.leaf (Ann.link ⟨Unit, fun _u => True, fun _u => ⟨[zz0, (2, AV.one (Cl.ptr 2 0)), (4, AV.one (Cl.ptr 4 0)), zz1, (9, AV.one (Cl.d (DV.int .i64 0)))], [(2, Bx.cells [Cl.d (DV.int .u16 p.a), Cl.d (DV.int .u16 p.b), Cl.d (DV.int .u16 p.c), Cl.d (DV.int .u16 p.al), Cl.d (DV.int .u16 p.f)]), zz2]⟩, fun _u => 0⟩ (fun _u => (Ann.seq Ann.leaf (Ann.seq (Ann.sure true Ann.leaf) Ann.leaf))) (Ann.link ⟨Unit, fun _u => True, fun _u => ⟨[zz0, (2, AV.one (Cl.ptr 2 0)), (4, AV.one (Cl.ptr 4 0)), zz1, (9, AV.one (Cl.d (DV.int .i64 1)))], [(2, Bx.cells [Cl.d (DV.int .u16 (to16 p.a)), Cl.d (DV.int .u16 p.b), Cl.d (DV.int .u16 p.c), Cl.d (DV.int .u16 p.al), Cl.d (DV.int .u16 p.f)]), zz2]⟩, fun _u => 0⟩ (fun _u => (Ann.seq Ann.leaf (Ann.seq (Ann.sure true Ann.leaf) Ann.leaf))) (Ann.link ⟨Unit, fun _u => True, fun _u => ⟨[zz0, (2, AV.one (Cl.ptr 2 0)), (4, AV.one (Cl.ptr 4 0)), zz1, (9, AV.one (Cl.d (DV.int .i64 2)))], [(2, Bx.cells [Cl.d (DV.int .u16 (to16 p.a)), Cl.d (DV.int .u16 (to16 p.b)), Cl.d (DV.int .u16 p.c), Cl.d (DV.int .u16 p.al), Cl.d (DV.int .u16 p.f)]), zz2]⟩, fun _u => 0⟩ (fun _u => (Ann.seq Ann.leaf (Ann.seq (Ann.sure true Ann.leaf) Ann.leaf))) (Ann.link ⟨Unit, fun _u => True, fun _u => ⟨[zz0, (2, AV.one (Cl.ptr 2 0)), (4, AV.one (Cl.ptr 4 0)), zz1, (9, AV.one (Cl.d (DV.int .i64 3)))], [(2, Bx.cells [Cl.d (DV.int .u16 (to16 p.a)), Cl.d (DV.int .u16 (to16 p.b)), Cl.d (DV.int .u16 (to16 p.c)), Cl.d (DV.int .u16 p.al), Cl.d (DV.int .u16 p.f)]), zz2]⟩, fun _u => 0⟩ (fun _u => (Ann.seq Ann.leaf (Ann.seq (Ann.sure false Ann.leaf) Ann.leaf))) Ann.leaf))))) Ann.leaf))
theorem sample_applyTo16_vc (p : Px) : vcg Try.prog gamS 31 (bodyOf Try.f81) (sample_applyTo16_ann p) kn0 (start [RV.agg [DV.int .u16 p.a, DV.int .u16 p.b, DV.int .u16 p.c, DV.int .u16 p.al, DV.int .u16 p.f], RV.d (DV.fn 82)]) (post Try.prog Try.f81.results.toList (· = RV.agg [DV.int .u16 ((Px.map to16 p).a), DV.int .u16 ((Px.map to16 p).b), DV.int .u16 ((Px.map to16 p).c), DV.int .u16 ((Px.map to16 p).al), DV.int .u16 ((Px.map to16 p).f)])) =
  (let zz0 := (DV.fn 82 = DV.fn 82); let zz1 := [DV.int .u16 p.a, DV.int .u16 p.b, DV.int .u16 p.c]; let zz2 := (zz1 = zz1); let zz3 := [DV.int .u16 p.a, DV.int .u16 p.b, DV.int .u16 p.c, DV.int .u16 p.al, DV.int .u16 p.f]; let zz4 := [DV.int .u16 0, DV.int .u16 0, DV.int .u16 0, DV.int .u16 0, DV.int .u16 0]; let zz5 := (zz4 = zz4); let zz6 := [DV.int .u16 (to16 p.a), DV.int .u16 p.b, DV.int .u16 p.c, DV.int .u16 p.al, DV.int .u16 p.f]; let zz7 := [DV.int .u16 (to16 p.a), DV.int .u16 (to16 p.b), DV.int .u16 p.c, DV.int .u16 p.al, DV.int .u16 p.f]; let zz8 := [DV.int .u16 (to16 p.a), DV.int .u16 (to16 p.b), DV.int .u16 (to16 p.c), DV.int .u16 p.al, DV.int .u16 p.f]; True ∧ True ∧ True ∧ True ∧ True ∧ (∃ _u : Unit, True ∧ ((zz0 ∧ (0 = 0) ∧ (0 = 0) ∧ zz2 ∧ (DV.int .i64 0 = DV.int .i64 0) ∧ True) ∧ ((zz3 = zz3) ∧ zz5 ∧ True))) ∧ ((∀ _u : Unit, (True) → True ∧ (decide ((0 : Int) < (3 : Int)) = true ∧ True ∧ (0 ≤ (0 : Int) ∧ (0 : Int) < ((3 : Nat) : Int) ∧ (some (DV.int .u16 p.a) = some (DV.int .u16 p.a)) ∧ True) ∧ True ∧ True ∧ True ∧ True ∧ True ∧ (Ans Try.prog 82 [RV.d (DV.int .u16 p.a)] (RV.d (DV.int .u16 (to16 p.a)))) ∧ True ∧ (0 ≤ (0 : Int) ∧ (0 : Int) < ((3 : Nat) : Int)) ∧ True ∧ True ∧ True ∧ ∃ _u : Unit, True ∧ ((zz0 ∧ (0 = 0) ∧ (0 = 0) ∧ zz2 ∧ (DV.int .i64 (IntKind.wrap .i64 ((0 : Int) + (1 : Int))) = DV.int .i64 1) ∧ True) ∧ ((zz6 = zz6) ∧ zz5 ∧ True)))) ∧ (∀ _u : Unit, (True) → True ∧ (decide ((1 : Int) < (3 : Int)) = true ∧ True ∧ (0 ≤ (1 : Int) ∧ (1 : Int) < ((3 : Nat) : Int) ∧ (some (DV.int .u16 p.b) = some (DV.int .u16 p.b)) ∧ True) ∧ True ∧ True ∧ True ∧ True ∧ True ∧ (Ans Try.prog 82 [RV.d (DV.int .u16 p.b)] (RV.d (DV.int .u16 (to16 p.b)))) ∧ True ∧ (0 ≤ (1 : Int) ∧ (1 : Int) < ((3 : Nat) : Int)) ∧ True ∧ True ∧ True ∧ ∃ _u : Unit, True ∧ ((zz0 ∧ (0 = 0) ∧ (0 = 0) ∧ zz2 ∧ (DV.int .i64 (IntKind.wrap .i64 ((1 : Int) + (1 : Int))) = DV.int .i64 2) ∧ True) ∧ ((zz7 = zz7) ∧ zz5 ∧ True)))) ∧ (∀ _u : Unit, (True) → True ∧ (decide ((2 : Int) < (3 : Int)) = true ∧ True ∧ (0 ≤ (2 : Int) ∧ (2 : Int) < ((3 : Nat) : Int) ∧ (some (DV.int .u16 p.c) = some (DV.int .u16 p.c)) ∧ True) ∧ True ∧ True ∧ True ∧ True ∧ True ∧ (Ans Try.prog 82 [RV.d (DV.int .u16 p.c)] (RV.d (DV.int .u16 (to16 p.c)))) ∧ True ∧ (0 ≤ (2 : Int) ∧ (2 : Int) < ((3 : Nat) : Int)) ∧ True ∧ True ∧ True ∧ ∃ _u : Unit, True ∧ ((zz0 ∧ (0 = 0) ∧ (0 = 0) ∧ zz2 ∧ (DV.int .i64 (IntKind.wrap .i64 ((2 : Int) + (1 : Int))) = DV.int .i64 3) ∧ True) ∧ ((zz8 = zz8) ∧ zz5 ∧ True)))) ∧ (∀ _u : Unit, (True) → True ∧ (decide ((3 : Int) < (3 : Int)) = false ∧ True ∧ True ∧ True ∧ (Ans Try.prog 82 [RV.d (DV.int .u16 p.al)] (RV.d (DV.int .u16 (to16 p.al)))) ∧ True ∧ True ∧ True ∧ (Ans Try.prog 82 [RV.d (DV.int .u16 p.f)] (RV.d (DV.int .u16 (to16 p.f)))) ∧ True ∧ True ∧ True ∧ True ∧ (true = true) ∧ True ∧ True ∧ RV.agg [DV.int .u16 (to16 p.a), DV.int .u16 (to16 p.b), DV.int .u16 (to16 p.c), DV.int .u16 (to16 p.al), DV.int .u16 (to16 p.f)] = RV.agg [DV.int .u16 ((Px.map to16 p).a), DV.int .u16 ((Px.map to16 p).b), DV.int .u16 ((Px.map to16 p).c), DV.int .u16 ((Px.map to16 p).al), DV.int .u16 ((Px.map to16 p).f)])) ∧ True)) := by kernel_rfl
theorem sample_applyTo16_ans (p : Px) : Ans Try.prog 81 [RV.agg [DV.int .u16 p.a, DV.int .u16 p.b, DV.int .u16 p.c, DV.int .u16 p.al, DV.int .u16 p.f], RV.d (DV.fn 82)] (RV.agg [DV.int .u16 ((Px.map to16 p).a), DV.int .u16 ((Px.map to16 p).b), DV.int .u16 ((Px.map to16 p).c), DV.int .u16 ((Px.map to16 p).al), DV.int .u16 ((Px.map to16 p).f)]) :=
  ans_of_vcg (Γ := gamS) (sample_applyTo16_ann p) mixed_ Try.func81 rfl (Nat.le_of_ble_eq_true rfl) fun hwf => by
    refine Eq.mpr (sample_applyTo16_vc p) ?_
    simp only [true_and, and_true, RV.d.injEq, RV.agg.injEq, RV.tup.injEq, DV.bool.injEq, DV.int.injEq, DV.sl.injEq, List.cons.injEq, forall_const, Bool.not_false, Bool.not_true, Bool.not_eq_true', Bool.not_eq_false', decide_eq_true_eq, decide_eq_false_iff_not, Int.toNat_natCast, sample_Max_ans, R01_Max_ans, sample_To16_ans, R01_To16_ans, R01_Half_ans, sample_To8_ans, R01_To8_ans]
    simp [w1_, Px.map]

def sample_applyTo8_ann (p : Px) : Ann := let zz0 := (1, AV.one (Cl.d (DV.fn 83))); let zz1 := (8, AV.agg [Cl.d (DV.int .u16 p.a), Cl.d (DV.int .u16 p.b), Cl.d (DV.int .u16 p.c)]); let zz2 := (4, Bx.cells [Cl.d (DV.int .u16 0), Cl.d (DV.int .u16 0), Cl.d (DV.int .u16 0), Cl.d (DV.int .u16 0), Cl.d (DV.int .u16 0)]); (Ann.seq Ann.leaf (Ann.seq (Ann.seq Ann.leaf (Ann.link ⟨Unit, fun _u => True, fun _u => ⟨[zz0, (2, AV.one (Cl.ptr 2 0)), (4, AV.one (Cl.ptr 4 0)), zz1, (9, AV.one (Cl.d (DV.int .i64 0)))], [(2, Bx.cells [Cl.d (DV.int .u16 p.a), Cl.d (DV.int .u16 p.b), Cl.d (DV.int .u16 p.c), Cl.d (DV.int .u16 p.al), Cl.d (DV.int .u16 p.f)]), zz2]⟩, fun _u => 0⟩ (fun _u => (Ann.seq Ann.leaf (Ann.seq (Ann.sure true Ann.leaf) Ann.leaf))) (Ann.link ⟨Unit, fun _u => True, fun _u => ⟨[zz0, (2, AV.one (Cl.ptr 2 0)), (4, AV.one (Cl.ptr 4 0)), zz1, (9, AV.one (Cl.d (DV.int .i64 1)))], [(2, Bx.cells [Cl.d (DV.int .u16 (to8 p.a)), Cl.d (DV.int .u16 p.b), Cl.d (DV.int .u16 p.c), Cl.d (DV.int .u16 p.al), Cl.d (DV.int .u16 p.f)]), zz2]⟩, fun _u => 0⟩ (fun _u => (Ann.seq Ann.leaf (Ann.seq (Ann.sure true Ann.leaf) Ann.leaf))) (Ann.link ⟨Unit, fun _u => True, fun _u => ⟨[zz0, (2, AV.one (Cl.ptr 2 0)), (4, AV.one (Cl.ptr 4 0)), zz1, (9, AV.one (Cl.d (DV.int .i64 2)))], [(2, Bx.cells [Cl.d (DV.int .u16 (to8 p.a)), Cl.d (DV.int .u16 (to8 p.b)), Cl.d (DV.int .u16 p.c), Cl.d (DV.int .u16 p.al), Cl.d (DV.int .u16 p.f)]), zz2]⟩, fun _u => 0⟩ (fun _u => (Ann.seq Ann.leaf (Ann.seq (Ann.sure true Ann.leaf) Ann.leaf))) (Ann.link ⟨Unit, fun _u => True, fun _u => ⟨[zz0, (2, AV.one (Cl.ptr 2 0)), (4, AV.one (Cl.ptr 4 0)), zz1, (9, AV.one (Cl.d (DV.int .i64 3)))], [(2, Bx.cells [Cl.d (DV.int .u16 (to8 p.a)), Cl.d (DV.int .u16 (to8 p.b)), Cl.d (DV.int .u16 (to8 p.c)), Cl.d (DV.int .u16 p.al), Cl.d (DV.int .u16 p.f)]), zz2]⟩, fun _u => 0⟩ (fun _u => (Ann.seq Ann.leaf (Ann.seq (Ann.sure false Ann.leaf) Ann.leaf))) Ann.leaf))))) Ann.leaf))
theorem sample_applyTo8_vc (p : Px) : vcg Try.prog gamS 31 (bodyOf Try.f81) (sample_applyTo8_ann p) kn0 (start [RV.agg [DV.int .u16 p.a, DV.int .u16 p.b, DV.int .u16 p.c, DV.int .u16 p.al, DV.int .u16 p.f], RV.d (DV.fn 83)]) (post Try.prog Try.f81.results.toList (· = RV.agg [DV.int .u16 ((Px.map to8 p).a), DV.int .u16 ((Px.map to8 p).b), DV.int .u16 ((Px.map to8 p).c), DV.int .u16 ((Px.map to8 p).al), DV.int .u16 ((Px.map to8 p).f)])) =
  (let zz0 := (DV.fn 83 = DV.fn 83); let zz1 := [DV.int .u16 p.a, DV.int .u16 p.b, DV.int .u16 p.c]; let zz2 := (zz1 = zz1); let zz3 := [DV.int .u16 p.a, DV.int .u16 p.b, DV.int .u16 p.c, DV.int .u16 p.al, DV.int .u16 p.f]; let zz4 := [DV.int .u16 0, DV.int .u16 0, DV.int .u16 0, DV.int .u16 0, DV.int .u16 0]; let zz5 := (zz4 = zz4); let zz6 := [DV.int .u16 (to8 p.a), DV.int .u16 p.b, DV.int .u16 p.c, DV.int .u16 p.al, DV.int .u16 p.f]; let zz7 := [DV.int .u16 (to8 p.a), DV.int .u16 (to8 p.b), DV.int .u16 p.c, DV.int .u16 p.al, DV.int .u16 p.f]; let zz8 := [DV.int .u16 (to8 p.a), DV.int .u16 (to8 p.b), DV.int .u16 (to8 p.c), DV.int .u16 p.al, DV.int .u16 p.f]; True ∧ True ∧ True ∧ True ∧ True ∧ (∃ _u : Unit, True ∧ ((zz0 ∧ (0 = 0) ∧ (0 = 0) ∧ zz2 ∧ (DV.int .i64 0 = DV.int .i64 0) ∧ True) ∧ ((zz3 = zz3) ∧ zz5 ∧ True))) ∧ ((∀ _u : Unit, (True) → True ∧ (decide ((0 : Int) < (3 : Int)) = true ∧ True ∧ (0 ≤ (0 : Int) ∧ (0 : Int) < ((3 : Nat) : Int) ∧ (some (DV.int .u16 p.a) = some (DV.int .u16 p.a)) ∧ True) ∧ True ∧ True ∧ True ∧ True ∧ True ∧ (Ans Try.prog 83 [RV.d (DV.int .u16 p.a)] (RV.d (DV.int .u16 (to8 p.a)))) ∧ True ∧ (0 ≤ (0 : Int) ∧ (0 : Int) < ((3 : Nat) : Int)) ∧ True ∧ True ∧ True ∧ ∃ _u : Unit, True ∧ ((zz0 ∧ (0 = 0) ∧ (0 = 0) ∧ zz2 ∧ (DV.int .i64 (IntKind.wrap .i64 ((0 : Int) + (1 : Int))) = DV.int .i64 1) ∧ True) ∧ ((zz6 = zz6) ∧ zz5 ∧ True)))) ∧ (∀ _u : Unit, (True) → True ∧ (decide ((1 : Int) < (3 : Int)) = true ∧ True ∧ (0 ≤ (1 : Int) ∧ (1 : Int) < ((3 : Nat) : Int) ∧ (some (DV.int .u16 p.b) = some (DV.int .u16 p.b)) ∧ True) ∧ True ∧ True ∧ True ∧ True ∧ True ∧ (Ans Try.prog 83 [RV.d (DV.int .u16 p.b)] (RV.d (DV.int .u16 (to8 p.b)))) ∧ True ∧ (0 ≤ (1 : Int) ∧ (1 : Int) < ((3 : Nat) : Int)) ∧ True ∧ True ∧ True ∧ ∃ _u : Unit, True ∧ ((zz0 ∧ (0 = 0) ∧ (0 = 0) ∧ zz2 ∧ (DV.int .i64 (IntKind.wrap .i64 ((1 : Int) + (1 : Int))) = DV.int .i64 2) ∧ True) ∧ ((zz7 = zz7) ∧ zz5 ∧ True)))) ∧ (∀ _u : Unit, (True) → True ∧ (decide ((2 : Int) < (3 : Int)) = true ∧ True ∧ (0 ≤ (2 : Int) ∧ (2 : Int) < ((3 : Nat) : Int) ∧ (some (DV.int .u16 p.c) = some (DV.int .u16 p.c)) ∧ True) ∧ True ∧ True ∧ True ∧ True ∧ True ∧ (Ans Try.prog 83 [RV.d (DV.int .u16 p.c)] (RV.d (DV.int .u16 (to8 p.c)))) ∧ True ∧ (0 ≤ (2 : Int) ∧ (2 : Int) < ((3 : Nat) : Int)) ∧ True ∧ True ∧ True ∧ ∃ _u : Unit, True ∧ ((zz0 ∧ (0 = 0) ∧ (0 = 0) ∧ zz2 ∧ (DV.int .i64 (IntKind.wrap .i64 ((2 : Int) + (1 : Int))) = DV.int .i64 3) ∧ True) ∧ ((zz8 = zz8) ∧ zz5 ∧ True)))) ∧ (∀ _u : Unit, (True) → True ∧ (decide ((3 : Int) < (3 : Int)) = false ∧ True ∧ True ∧ True ∧ (Ans Try.prog 83 [RV.d (DV.int .u16 p.al)] (RV.d (DV.int .u16 (to8 p.al)))) ∧ True ∧ True ∧ True ∧ (Ans Try.prog 83 [RV.d (DV.int .u16 p.f)] (RV.d (DV.int .u16 (to8 p.f)))) ∧ True ∧ True ∧ True ∧ True ∧ (true = true) ∧ True ∧ True ∧ RV.agg [DV.int .u16 (to8 p.a), DV.int .u16 (to8 p.b), DV.int .u16 (to8 p.c), DV.int .u16 (to8 p.al), DV.int .u16 (to8 p.f)] = RV.agg [DV.int .u16 ((Px.map to8 p).a), DV.int .u16 ((Px.map to8 p).b), DV.int .u16 ((Px.map to8 p).c), DV.int .u16 ((Px.map to8 p).al), DV.int .u16 ((Px.map to8 p).f)])) ∧ True)) := by kernel_rfl
theorem sample_applyTo8_ans (p : Px) : Ans Try.prog 81 [RV.agg [DV.int .u16 p.a, DV.int .u16 p.b, DV.int .u16 p.c, DV.int .u16 p.al, DV.int .u16 p.f], RV.d (DV.fn 83)] (RV.agg [DV.int .u16 ((Px.map to8 p).a), DV.int .u16 ((Px.map to8 p).b), DV.int .u16 ((Px.map to8 p).c), DV.int .u16 ((Px.map to8 p).al), DV.int .u16 ((Px.map to8 p).f)]) :=
  ans_of_vcg (Γ := gamS) (sample_applyTo8_ann p) mixed_ Try.func81 rfl (Nat.le_of_ble_eq_true rfl) fun hwf => by
    refine Eq.mpr (sample_applyTo8_vc p) ?_
    simp only [true_and, and_true, RV.d.injEq, RV.agg.injEq, RV.tup.injEq, DV.bool.injEq, DV.int.injEq, DV.sl.injEq, List.cons.injEq, forall_const, Bool.not_false, Bool.not_true, Bool.not_eq_true', Bool.not_eq_false', decide_eq_true_eq, decide_eq_false_iff_not, Int.toNat_natCast, sample_Max_ans, R01_Max_ans, sample_To16_ans, R01_To16_ans, R01_Half_ans, sample_To8_ans, R01_To8_ans, sample_applyTo16_ans]
    simp [w1_, Px.map]

def sample_Widen_ann (p : Px) : Ann := Ann.leaf
theorem sample_Widen_vc (p : Px) : vcg Try.prog gamS 5 (bodyOf Try.f73) (sample_Widen_ann p) kn0 (start [RV.agg [DV.int .u16 p.a, DV.int .u16 p.b, DV.int .u16 p.c, DV.int .u16 p.al, DV.int .u16 p.f]]) (post Try.prog Try.f73.results.toList (· = RV.agg [DV.int .u16 ((Px.map to16 p).a), DV.int .u16 ((Px.map to16 p).b), DV.int .u16 ((Px.map to16 p).c), DV.int .u16 ((Px.map to16 p).al), DV.int .u16 ((Px.map to16 p).f)])) =
  (let zz0 := [DV.int .u16 ((Px.map to16 p).a), DV.int .u16 ((Px.map to16 p).b), DV.int .u16 ((Px.map to16 p).c), DV.int .u16 ((Px.map to16 p).al), DV.int .u16 ((Px.map to16 p).f)]; True ∧ True ∧ True ∧ (Ans Try.prog 81 [RV.agg [DV.int .u16 p.a, DV.int .u16 p.b, DV.int .u16 p.c, DV.int .u16 p.al, DV.int .u16 p.f], RV.d (DV.fn 82)] (RV.agg zz0)) ∧ True ∧ RV.agg zz0 = RV.agg zz0) := by kernel_rfl
theorem sample_Widen_ans (p : Px) : Ans Try.prog 73 [RV.agg [DV.int .u16 p.a, DV.int .u16 p.b, DV.int .u16 p.c, DV.int .u16 p.al, DV.int .u16 p.f]] (RV.agg [DV.int .u16 ((Px.map to16 p).a), DV.int .u16 ((Px.map to16 p).b), DV.int .u16 ((Px.map to16 p).c), DV.int .u16 ((Px.map to16 p).al), DV.int .u16 ((Px.map to16 p).f)]) :=
  ans_of_vcg (Γ := gamS) (sample_Widen_ann p) mixed_ Try.func73 rfl (Nat.le_of_ble_eq_true rfl) fun hwf => by
    refine Eq.mpr (sample_Widen_vc p) ?_
    simp only [true_and, and_true, RV.d.injEq, RV.agg.injEq, RV.tup.injEq, DV.bool.injEq, DV.int.injEq, DV.sl.injEq, List.cons.injEq, forall_const, Bool.not_false, Bool.not_true, Bool.not_eq_true', Bool.not_eq_false', decide_eq_true_eq, decide_eq_false_iff_not, Int.toNat_natCast, sample_Max_ans, R01_Max_ans, sample_To16_ans, R01_To16_ans, R01_Half_ans, sample_To8_ans, R01_To8_ans, sample_applyTo16_ans, sample_applyTo8_ans]
    skip

def sample_Narrow_ann (p : Px) : Ann := Ann.leaf
theorem sample_Narrow_vc (p : Px) : vcg Try.prog gamS 5 (bodyOf Try.f74) (sample_Narrow_ann p) kn0 (start [RV.agg [DV.int .u16 p.a, DV.int .u16 p.b, DV.int .u16 p.c, DV.int .u16 p.al, DV.int .u16 p.f]]) (post Try.prog Try.f74.results.toList (· = RV.agg [DV.int .u16 ((Px.map to8 p).a), DV.int .u16 ((Px.map to8 p).b), DV.int .u16 ((Px.map to8 p).c), DV.int .u16 ((Px.map to8 p).al), DV.int .u16 ((Px.map to8 p).f)])) =
  (let zz0 := [DV.int .u16 ((Px.map to8 p).a), DV.int .u16 ((Px.map to8 p).b), DV.int .u16 ((Px.map to8 p).c), DV.int .u16 ((Px.map to8 p).al), DV.int .u16 ((Px.map to8 p).f)]; True ∧ True ∧ True ∧ (Ans Try.prog 81 [RV.agg [DV.int .u16 p.a, DV.int .u16 p.b, DV.int .u16 p.c, DV.int .u16 p.al, DV.int .u16 p.f], RV.d (DV.fn 83)] (RV.agg zz0)) ∧ True ∧ RV.agg zz0 = RV.agg zz0) := by kernel_rfl
theorem sample_Narrow_ans (p : Px) : Ans Try.prog 74 [RV.agg [DV.int .u16 p.a, DV.int .u16 p.b, DV.int .u16 p.c, DV.int .u16 p.al, DV.int .u16 p.f]] (RV.agg [DV.int .u16 ((Px.map to8 p).a), DV.int .u16 ((Px.map to8 p).b), DV.int .u16 ((Px.map to8 p).c), DV.int .u16 ((Px.map to8 p).al), DV.int .u16 ((Px.map to8 p).f)]) :=
  ans_of_vcg (Γ := gamS) (sample_Narrow_ann p) mixed_ Try.func74 rfl (Nat.le_of_ble_eq_true rfl) fun hwf => by
    refine Eq.mpr (sample_Narrow_vc p) ?_
    simp only [true_and, and_true, RV.d.injEq, RV.agg.injEq, RV.tup.injEq, DV.bool.injEq, DV.int.injEq, DV.sl.injEq, List.cons.injEq, forall_const, Bool.not_false, Bool.not_true, Bool.not_eq_true', Bool.not_eq_false', decide_eq_true_eq, decide_eq_false_iff_not, Int.toNat_natCast, sample_Max_ans, R01_Max_ans, sample_To16_ans, R01_To16_ans, R01_Half_ans, sample_To8_ans, R01_To8_ans, sample_applyTo16_ans, sample_applyTo8_ans, sample_Widen_ans]
    skip

def R01_Widen_ann (p : Px) : Ann := Ann.leaf
theorem R01_Widen_vc (p : Px) : vcg Try.prog gamS 23 (bodyOf Try.f76) (R01_Widen_ann p) kn0 (start [RV.agg [DV.int .u16 p.a, DV.int .u16 p.b, DV.int .u16 p.c, DV.int .u16 p.al, DV.int .u16 p.f]]) (post Try.prog Try.f76.results.toList (· = RV.agg [DV.int .u16 ((Px.map to16 p).a), DV.int .u16 ((Px.map to16 p).b), DV.int .u16 ((Px.map to16 p).c), DV.int .u16 ((Px.map to16 p).al), DV.int .u16 ((Px.map to16 p).f)])) =
  (True ∧ True ∧ True ∧ (0 ≤ (0 : Int) ∧ (0 : Int) < ((3 : Nat) : Int)) ∧ True ∧ (Ans Try.prog 84 [RV.d (DV.int .u16 p.a)] (RV.d (DV.int .u16 (to16 p.a)))) ∧ True ∧ (0 ≤ (1 : Int) ∧ (1 : Int) < ((3 : Nat) : Int)) ∧ True ∧ (Ans Try.prog 84 [RV.d (DV.int .u16 p.b)] (RV.d (DV.int .u16 (to16 p.b)))) ∧ True ∧ (0 ≤ (2 : Int) ∧ (2 : Int) < ((3 : Nat) : Int)) ∧ True ∧ (Ans Try.prog 84 [RV.d (DV.int .u16 p.c)] (RV.d (DV.int .u16 (to16 p.c)))) ∧ True ∧ True ∧ True ∧ (Ans Try.prog 84 [RV.d (DV.int .u16 p.al)] (RV.d (DV.int .u16 (to16 p.al)))) ∧ True ∧ True ∧ (Ans Try.prog 84 [RV.d (DV.int .u16 p.f)] (RV.d (DV.int .u16 (to16 p.f)))) ∧ True ∧ True ∧ (true = true) ∧ RV.agg [DV.int .u16 (to16 p.a), DV.int .u16 (to16 p.b), DV.int .u16 (to16 p.c), DV.int .u16 (to16 p.al), DV.int .u16 (to16 p.f)] = RV.agg [DV.int .u16 ((Px.map to16 p).a), DV.int .u16 ((Px.map to16 p).b), DV.int .u16 ((Px.map to16 p).c), DV.int .u16 ((Px.map to16 p).al), DV.int .u16 ((Px.map to16 p).f)]) := by kernel_rfl
theorem R01_Widen_ans (p : Px) : Ans Try.prog 76 [RV.agg [DV.int .u16 p.a, DV.int .u16 p.b, DV.int .u16 p.c, DV.int .u16 p.al, DV.int .u16 p.f]] (RV.agg [DV.int .u16 ((Px.map to16 p).a), DV.int .u16 ((Px.map to16 p).b), DV.int .u16 ((Px.map to16 p).c), DV.int .u16 ((Px.map to16 p).al), DV.int .u16 ((Px.map to16 p).f)]) :=
  ans_of_vcg (Γ := gamS) (R01_Widen_ann p) mixed_ Try.func76 rfl (Nat.le_of_ble_eq_true rfl) fun hwf => by
    refine Eq.mpr (R01_Widen_vc p) ?_
    simp only [true_and, and_true, RV.d.injEq, RV.agg.injEq, RV.tup.injEq, DV.bool.injEq, DV.int.injEq, DV.sl.injEq, List.cons.injEq, forall_const, Bool.not_false, Bool.not_true, Bool.not_eq_true', Bool.not_eq_false', decide_eq_true_eq, decide_eq_false_iff_not, Int.toNat_natCast, sample_Max_ans, R01_Max_ans, sample_To16_ans, R01_To16_ans, R01_Half_ans, sample_To8_ans, R01_To8_ans, sample_applyTo16_ans, sample_applyTo8_ans, sample_Widen_ans, sample_Narrow_ans]
    simp [Px.map]

def R01_Narrow_ann (p : Px) : Ann := Ann.leaf
theorem R01_Narrow_vc (p : Px) : vcg Try.prog gamS 23 (bodyOf Try.f77) (R01_Narrow_ann p) kn0 (start [RV.agg [DV.int .u16 p.a, DV.int .u16 p.b, DV.int .u16 p.c, DV.int .u16 p.al, DV.int .u16 p.f]]) (post Try.prog Try.f77.results.toList (· = RV.agg [DV.int .u16 ((Px.map to8 p).a), DV.int .u16 ((Px.map to8 p).b), DV.int .u16 ((Px.map to8 p).c), DV.int .u16 ((Px.map to8 p).al), DV.int .u16 ((Px.map to8 p).f)])) =
  (True ∧ True ∧ True ∧ (0 ≤ (0 : Int) ∧ (0 : Int) < ((3 : Nat) : Int)) ∧ True ∧ (Ans Try.prog 85 [RV.d (DV.int .u16 p.a)] (RV.d (DV.int .u16 (to8 p.a)))) ∧ True ∧ (0 ≤ (1 : Int) ∧ (1 : Int) < ((3 : Nat) : Int)) ∧ True ∧ (Ans Try.prog 85 [RV.d (DV.int .u16 p.b)] (RV.d (DV.int .u16 (to8 p.b)))) ∧ True ∧ (0 ≤ (2 : Int) ∧ (2 : Int) < ((3 : Nat) : Int)) ∧ True ∧ (Ans Try.prog 85 [RV.d (DV.int .u16 p.c)] (RV.d (DV.int .u16 (to8 p.c)))) ∧ True ∧ True ∧ True ∧ (Ans Try.prog 85 [RV.d (DV.int .u16 p.al)] (RV.d (DV.int .u16 (to8 p.al)))) ∧ True ∧ True ∧ (Ans Try.prog 85 [RV.d (DV.int .u16 p.f)] (RV.d (DV.int .u16 (to8 p.f)))) ∧ True ∧ True ∧ (true = true) ∧ RV.agg [DV.int .u16 (to8 p.a), DV.int .u16 (to8 p.b), DV.int .u16 (to8 p.c), DV.int .u16 (to8 p.al), DV.int .u16 (to8 p.f)] = RV.agg [DV.int .u16 ((Px.map to8 p).a), DV.int .u16 ((Px.map to8 p).b), DV.int .u16 ((Px.map to8 p).c), DV.int .u16 ((Px.map to8 p).al), DV.int .u16 ((Px.map to8 p).f)]) := by kernel_rfl
theorem R01_Narrow_ans (p : Px) : Ans Try.prog 77 [RV.agg [DV.int .u16 p.a, DV.int .u16 p.b, DV.int .u16 p.c, DV.int .u16 p.al, DV.int .u16 p.f]] (RV.agg [DV.int .u16 ((Px.map to8 p).a), DV.int .u16 ((Px.map to8 p).b), DV.int .u16 ((Px.map to8 p).c), DV.int .u16 ((Px.map to8 p).al), DV.int .u16 ((Px.map to8 p).f)]) :=
  ans_of_vcg (Γ := gamS) (R01_Narrow_ann p) mixed_ Try.func77 rfl (Nat.le_of_ble_eq_true rfl) fun hwf => by
    refine Eq.mpr (R01_Narrow_vc p) ?_
    simp only [true_and, and_true, RV.d.injEq, RV.agg.injEq, RV.tup.injEq, DV.bool.injEq, DV.int.injEq, DV.sl.injEq, List.cons.injEq, forall_const, Bool.not_false, Bool.not_true, Bool.not_eq_true', Bool.not_eq_false', decide_eq_true_eq, decide_eq_false_iff_not, Int.toNat_natCast, sample_Max_ans, R01_Max_ans, sample_To16_ans, R01_To16_ans, R01_Half_ans, sample_To8_ans, R01_To8_ans, sample_applyTo16_ans, sample_applyTo8_ans, sample_Widen_ans, sample_Narrow_ans, R01_Widen_ans]
    simp [Px.map]

end Go.Proofs.Ytfeknaojnominaa
