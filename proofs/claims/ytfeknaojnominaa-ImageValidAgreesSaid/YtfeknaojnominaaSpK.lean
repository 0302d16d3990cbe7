/-
  Planes with longer rows, in plain words: what a round does.
-/
import Derived.Test.YtfeknaojnominaaSpJ
namespace Go.Proofs.Ytfeknaojnominaa
open Go.RowKit
set_option linter.unusedVariables false
set_option linter.unusedSimpArgs false

theorem strS_is {p : Pl} {more k : Int} (hw : 1 ≤ p.w ∧ p.w ≤ 100) : p.w ≤ strS p more k ∧ strS p more k ≤ 103 := by
  have b := @modS_in (IntKind.wrap .i64 (more + k)) 4 (by omega) (by omega)
  unfold strS
  rw [IntWalk.i64_in _ ⟨by omega, by omega⟩]
  omega
theorem strN_is {p : Pl} {s : Int} (hs : 1 ≤ s ∧ s ≤ 103) (hh : 1 ≤ p.h ∧ p.h ≤ 100) : IntKind.wrap .i64 (s * p.h) = (strN p s : Int) ∧ strN p s ≤ 10300 ∧ ((strN p s : Nat) : Int) = s * p.h := by
  have a := Int.mul_le_mul hs.2 hh.2 (by omega) (by omega)
  have b := Int.mul_nonneg (show 0 ≤ s by omega) (show 0 ≤ p.h by omega)
  unfold strN
  rw [IntWalk.i64_in _ ⟨by omega, by omega⟩]
  omega
theorem strRow_len (p : Pl) (s : Int) (n : Nat) : (strRow p s n).length = n := by simp [strRow, us_length]
theorem strRow_succ (p : Pl) (s : Int) (n : Nat) : strRow p s n ++ [.int .u16 (strV p s n)] = strRow p s (n + 1) := by
  unfold strRow
  rw [List.range_succ, List.map_append, ← us_append]
  rfl
/-- the place that a round reads -/
theorem str_at {p : Pl} (hu : p.isU) (hv : validP p.w p.h p.s p.n = true) {s : Int} (hs : p.w ≤ s ∧ s ≤ 103) (hw : 1 ≤ p.w ∧ p.w ≤ 100) (hh : 1 ≤ p.h ∧ p.h ≤ 100) {i : Nat} (hi : (i : Int) < s * p.h) (hx : Int.tmod (i : Int) s < p.w) :
    (0 ≤ IntKind.wrap .i64 (IntKind.wrap .i64 (IntKind.wrap .i64 (Int.tdiv (i : Int) s) * p.s) + Int.tmod (i : Int) s) ∧ IntKind.wrap .i64 (IntKind.wrap .i64 (IntKind.wrap .i64 (Int.tdiv (i : Int) s) * p.s) + Int.tmod (i : Int) s) < p.n ∧ (IntKind.wrap .i64 (IntKind.wrap .i64 (IntKind.wrap .i64 (Int.tdiv (i : Int) s) * p.s) + Int.tmod (i : Int) s)).toNat * 1 < p.xs.length) ∧
    p.xs[(IntKind.wrap .i64 (IntKind.wrap .i64 (IntKind.wrap .i64 (Int.tdiv (i : Int) s) * p.s) + Int.tmod (i : Int) s)).toNat * 1]? = some (.int .u16 (nAt p.xs ((IntKind.wrap .i64 (IntKind.wrap .i64 (IntKind.wrap .i64 (Int.tdiv (i : Int) s) * p.s) + Int.tmod (i : Int) s)).toNat * 1))) := by
  have d0 : Int.tdiv (i : Int) s = (i : Int) / s := Int.tdiv_eq_ediv_of_nonneg (by omega)
  have m0 : Int.tmod (i : Int) s = (i : Int) % s := Int.tmod_eq_emod_of_nonneg (by omega)
  have y0 : 0 ≤ (i : Int) / s := Int.ediv_nonneg (by omega) (by omega)
  have y1 : (i : Int) / s < p.h := Int.ediv_lt_of_lt_mul (by omega) (by rw [Int.mul_comm]; exact hi)
  have x0 : 0 ≤ (i : Int) % s := Int.emod_nonneg _ (by omega)
  rw [d0]
  rw [m0] at hx ⊢
  have wd : IntKind.wrap .i64 ((i : Int) / s) = (i : Int) / s := IntWalk.i64_in _ ⟨by omega, by omega⟩
  rw [wd]
  obtain ⟨a, b, c⟩ := plane_at hu hv (x := (i : Int) % s) (y := (i : Int) / s) ⟨x0, hx⟩ ⟨y0, y1⟩
  rw [a]
  exact ⟨b, c⟩
theorem strStep {p : Pl} {s : Int} {i : Nat} {v : Int} (hi : (i : Int) < IntKind.wrap .i64 (s * p.h)) (hN : IntKind.wrap .i64 (s * p.h) = (strN p s : Int) ∧ strN p s ≤ 10300 ∧ ((strN p s : Nat) : Int) = s * p.h) (hv : v = strV p s i) :
    ∃ i' : Nat, i' ≤ strN p s ∧ strN p s - i' < strN p s - i ∧ IntKind.wrap .i64 ((i : Int) + 1) = (i' : Int) ∧ i + 1 = i' ∧ strRow p s i ++ [.int .u16 v] = strRow p s i' :=
  ⟨i + 1, by omega, by omega, wrap_succ (by omega), rfl, by rw [hv]; exact strRow_succ p s i⟩
theorem strApp {p : Pl} {s : Int} {i : Nat} {d : DV} (hi : (i : Int) < IntKind.wrap .i64 (s * p.h)) (hN : IntKind.wrap .i64 (s * p.h) = (strN p s : Int) ∧ strN p s ≤ 10300 ∧ ((strN p s : Nat) : Int) = s * p.h) : appVc 1 2 i 1 (strRow p s i) [d] :=
  ⟨by rw [strRow_len]; omega, rfl, by unfold maxLen; omega, by omega⟩
theorem strV_in {p : Pl} {s : Int} {i : Nat} (h : Int.tmod (i : Int) s < p.w) : nAt p.xs ((IntKind.wrap .i64 (IntKind.wrap .i64 (IntKind.wrap .i64 (Int.tdiv (i : Int) s) * p.s) + Int.tmod (i : Int) s)).toNat * 1) = strV p s i := by
  unfold strV
  rw [if_pos h, Nat.mul_one]
theorem strV_out {p : Pl} {s : Int} {i : Nat} (h : ¬ Int.tmod (i : Int) s < p.w) : IntKind.wrap .u16 (IntKind.wrap .i64 (40000 + (i : Int))) = strV p s i := by
  unfold strV
  rw [if_neg h]
end Go.Proofs.Ytfeknaojnominaa
