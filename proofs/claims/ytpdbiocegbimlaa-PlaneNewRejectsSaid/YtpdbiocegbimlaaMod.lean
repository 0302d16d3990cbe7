/-
  Walk: compositorgen.Mod.
-/
import Derived.Test.YtpdbiocegbimlaaRows
import Derived.Test.YtpdbiocegbimlaaBase
namespace Go.Proofs.Ytpdbiocegbimlaa
open Go.RowKit
set_option linter.unusedVariables false
set_option linter.unusedSimpArgs false

theorem mod_eq {n k : Int} (hk : 1 ≤ k) (hk' : k ≤ 4611686018427387904) : (wrap64 (n.tmod k + k)).tmod k = n % k := by
  have a := Int.tmod_lt_of_pos n (show 0 < k by omega)
  have b : -k < n.tmod k := by
    rcases Int.le_total 0 n with h | h
    · have := Int.tmod_nonneg k h; omega
    · have := Int.tmod_lt_of_pos (-n) (show 0 < k by omega)
      rw [Int.neg_tmod] at this
      omega
  rw [IntWalk.wrap64_in _ ⟨by omega, by omega⟩, Int.tmod_eq_emod_of_nonneg (by omega), Int.add_emod_right, Int.tmod_def]
  rw [show n - k * n.tdiv k = n + k * (-(n.tdiv k)) from by rw [Int.mul_neg]; omega, Int.add_mul_emod_self_left]

set_option maxHeartbeats 400000 in
theorem Mod_any (n k : Int) (w : World) (hk : 1 ≤ k) (hk' : k ≤ 4611686018427387904) :
    Calls Try.prog 12 #[.int .i64 n, .int .i64 k] w fun e w' => e = .returned (.int .i64 (n % k)) ∧ w = w' := by
  go_enter Try.func12, Try.ntmps12
  go_wp2
  go_ret
  exact ⟨ret_int (mod_eq hk hk'), rfl⟩

end Go.Proofs.Ytpdbiocegbimlaa
