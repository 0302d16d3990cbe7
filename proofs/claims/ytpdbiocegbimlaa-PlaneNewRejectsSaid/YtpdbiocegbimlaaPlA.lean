/-
  Walks: the sizes of planes, of package plane and of its reference.
-/
import Derived.Test.YtpdbiocegbimlaaRows
import Derived.Test.YtpdbiocegbimlaaBase
namespace Go.Proofs.Ytpdbiocegbimlaa
open Go.RowKit
set_option linter.unusedVariables false
set_option linter.unusedSimpArgs false

theorem le_div {a b c : Int} (h : 1 ≤ c) : a ≤ b / c ↔ a * c ≤ b := Int.le_ediv_iff_mul_le (by omega)
theorem size_no {W H : Int} (h : ¬ (1 ≤ W ∧ 1 ≤ H ∧ W ≤ 16777216 ∧ H ≤ 16777216)) : false = plSize W H := by
  cases hh : plSize W H with
  | false => rfl
  | true => have := plSize_true hh; omega
theorem size_dec {W H : Int} (h1 : 1 ≤ W) (h2 : 1 ≤ H) : decide (W ≤ 16777216 / H) = plSize W H := by
  simp [plSize, h1, h2, le_div h2]
theorem fits_dec {W H : Int} (h1 : 1 ≤ W) (h2 : 1 ≤ H) : decide (H ≤ 16777216 / W) = plSize W H := by
  simp [plSize, h1, h2, le_div h1, Int.mul_comm]

set_option maxHeartbeats 400000 in
theorem size_any (W H : Int) (w : World) : Calls Try.prog 24 #[.int .i64 W, .int .i64 H] w fun e w' => e = .returned (.bool (plSize W H)) ∧ w = w' := by
  by_cases h1 : 1 ≤ W
  · by_cases h2 : 1 ≤ H
    · go_enter Try.func24, Try.ntmps24
      go_wp2
      go_ret
      exact ⟨ret_bool (size_dec h1 h2), rfl⟩
    · go_enter Try.func24, Try.ntmps24
      go_wp2
      go_ret
      exact ⟨ret_bool (size_no (by omega)), rfl⟩
  · go_enter Try.func24, Try.ntmps24
    go_wp2
    go_ret
    exact ⟨ret_bool (size_no (by omega)), rfl⟩

set_option maxHeartbeats 400000 in
theorem fits_any (W H : Int) (w : World) : Calls Try.prog 26 #[.int .i64 W, .int .i64 H] w fun e w' => e = .returned (.bool (plSize W H)) ∧ w = w' := by
  by_cases h1 : 1 ≤ W
  · by_cases h2 : 1 ≤ H
    · by_cases h3 : W ≤ 16777216
      · go_enter Try.func26, Try.ntmps26
        go_wp2
        go_ret
        exact ⟨ret_bool (fits_dec h1 h2), rfl⟩
      · go_enter Try.func26, Try.ntmps26
        go_wp2
        go_ret
        exact ⟨ret_bool (size_no (by omega)), rfl⟩
    · go_enter Try.func26, Try.ntmps26
      go_wp2
      go_ret
      exact ⟨ret_bool (size_no (by omega)), rfl⟩
  · go_enter Try.func26, Try.ntmps26
    go_wp2
    go_ret
    exact ⟨ret_bool (size_no (by omega)), rfl⟩

set_option maxHeartbeats 400000 in
theorem length_any (W H S : Int) (w : World) (h : plSize W H = true) (h1 : W ≤ S) (h2 : S ≤ 16777216) : Calls Try.prog 25 #[.int .i64 W, .int .i64 H, .int .i64 S] w fun e w' => e = .returned (.int .i64 (plLen W H S)) ∧ w = w' := by
  obtain ⟨b1, b2, b3, b4⟩ := plLen_bd h h1 h2
  obtain ⟨a1, a2, a3, a4, a5⟩ := plSize_true h
  unfold plLen at b1 b2
  go_enter Try.func25, Try.ntmps25
  go_wp2
  go_ret
  exact ⟨ret_int (by rfl), rfl⟩

theorem size_is (W H : Int) (w : World) {b : Bool} (h : plSize W H = b) : Calls Try.prog 24 #[.int .i64 W, .int .i64 H] w fun e w' => e = .returned (.bool b) ∧ w = w' := by
  subst h; exact size_any W H w
theorem fits_is (W H : Int) (w : World) {b : Bool} (h : plSize W H = b) : Calls Try.prog 26 #[.int .i64 W, .int .i64 H] w fun e w' => e = .returned (.bool b) ∧ w = w' := by
  subst h; exact fits_any W H w

set_option maxHeartbeats 400000 in
theorem ValidPl_any (W H S : Int) (A : Option Addr) (n c : Nat) (w : World) :
    Calls Try.prog 10 #[.agg #[.int .i64 W, .int .i64 H, .int .i64 S, .slice A n c]] w fun e w' => e = .returned (.bool (plValid W H S n)) ∧ Below w.heap.size w w' := by
  by_cases h : plSize W H = true
  · by_cases h1 : W ≤ S
    · by_cases h2 : S ≤ 16777216
      · go_enter Try.func10, Try.ntmps10
        go_wp2_with fail
        go_quiet (first | (go_at_call 24; exact quiet_left (size_is _ _ _ h)) | (go_at_call 25; exact quiet_left (length_any _ _ _ _ h h1 h2)))
        go_wp2
        go_ret
        exact ⟨ret_bool (by rw [Bool.eq_iff_iff]; simp [plValid, h, h1, h2] <;> first | exact Iff.rfl | (intros; omega)), (by repeat (first | exact Below.refl _ _ | apply Below.drew | apply below_drewN | (refine Below.alloc ?_ ?_ _; rotate_left; (first | omega | (simp only [World.size_alloc, World.size_setCell, World.size_drew]; omega))) | (refine Below.setCell ?_ ?_ _; rotate_left; (first | omega | (simp only [World.size_alloc, World.size_setCell, World.size_drew]; omega))) | (refine below_step ?_ (by assumption) ?_; rotate_left; (first | omega | (simp only [World.size_alloc, World.size_setCell, World.size_drew]; omega))) | assumption))⟩
      · have hd : decide (S ≤ 16777216) = false := by simpa using h2
        go_enter Try.func10, Try.ntmps10
        go_wp2_with fail
        go_quiet ((go_at_call 24; exact quiet_left (size_is _ _ _ h)))
        go_wp2
        go_ret
        exact ⟨ret_bool (by rw [Bool.eq_iff_iff]; simp [plValid, h, h1, hd] <;> first | exact Iff.rfl | (intros; omega)), (by repeat (first | exact Below.refl _ _ | apply Below.drew | apply below_drewN | (refine Below.alloc ?_ ?_ _; rotate_left; (first | omega | (simp only [World.size_alloc, World.size_setCell, World.size_drew]; omega))) | (refine Below.setCell ?_ ?_ _; rotate_left; (first | omega | (simp only [World.size_alloc, World.size_setCell, World.size_drew]; omega))) | (refine below_step ?_ (by assumption) ?_; rotate_left; (first | omega | (simp only [World.size_alloc, World.size_setCell, World.size_drew]; omega))) | assumption))⟩
    · have hd : decide (W ≤ S) = false := by simpa using h1
      go_enter Try.func10, Try.ntmps10
      go_wp2_with fail
      go_quiet ((go_at_call 24; exact quiet_left (size_is _ _ _ h)))
      go_wp2
      go_ret
      exact ⟨ret_bool (by rw [Bool.eq_iff_iff]; simp [plValid, h, hd] <;> first | exact Iff.rfl | (intros; omega)), (by repeat (first | exact Below.refl _ _ | apply Below.drew | apply below_drewN | (refine Below.alloc ?_ ?_ _; rotate_left; (first | omega | (simp only [World.size_alloc, World.size_setCell, World.size_drew]; omega))) | (refine Below.setCell ?_ ?_ _; rotate_left; (first | omega | (simp only [World.size_alloc, World.size_setCell, World.size_drew]; omega))) | (refine below_step ?_ (by assumption) ?_; rotate_left; (first | omega | (simp only [World.size_alloc, World.size_setCell, World.size_drew]; omega))) | assumption))⟩
  · have h : plSize W H = false := by simpa using h
    go_enter Try.func10, Try.ntmps10
    go_wp2_with fail
    go_quiet ((go_at_call 24; exact quiet_left (size_is _ _ _ h)))
    go_wp2
    go_ret
    exact ⟨ret_bool (by rw [Bool.eq_iff_iff]; simp [plValid, h] <;> first | exact Iff.rfl | (intros; omega)), (by repeat (first | exact Below.refl _ _ | apply Below.drew | apply below_drewN | (refine Below.alloc ?_ ?_ _; rotate_left; (first | omega | (simp only [World.size_alloc, World.size_setCell, World.size_drew]; omega))) | (refine Below.setCell ?_ ?_ _; rotate_left; (first | omega | (simp only [World.size_alloc, World.size_setCell, World.size_drew]; omega))) | (refine below_step ?_ (by assumption) ?_; rotate_left; (first | omega | (simp only [World.size_alloc, World.size_setCell, World.size_drew]; omega))) | assumption))⟩

set_option maxHeartbeats 400000 in
theorem ValidPlR_any (W H S : Int) (A : Option Addr) (n c : Nat) (w : World) :
    Calls Try.prog 11 #[.agg #[.int .i64 W, .int .i64 H, .int .i64 S, .slice A n c]] w fun e w' => e = .returned (.bool (plValid W H S n)) ∧ Below w.heap.size w w' := by
  by_cases h : plSize W H = true
  · by_cases h1 : W ≤ S
    · by_cases h2 : S ≤ 16777216
      · obtain ⟨b1, b2, b3, b4⟩ := plLen_bd h h1 h2
        obtain ⟨a1, a2, a3, a4, a5⟩ := plSize_true h
        unfold plLen at b1 b2
        go_enter Try.func11, Try.ntmps11
        go_wp2_with ((go_at_call 26; refine (fits_is _ _ _ h).mono ?_; rintro e w1 ⟨rfl, rfl⟩))
        go_ret
        exact ⟨ret_bool (by rw [Bool.eq_iff_iff]; simp [plValid, h, h1, h2] <;> first | exact Iff.rfl | (intros; omega)), (by repeat (first | exact Below.refl _ _ | apply Below.drew | apply below_drewN | (refine Below.alloc ?_ ?_ _; rotate_left; (first | omega | (simp only [World.size_alloc, World.size_setCell, World.size_drew]; omega))) | (refine Below.setCell ?_ ?_ _; rotate_left; (first | omega | (simp only [World.size_alloc, World.size_setCell, World.size_drew]; omega))) | (refine below_step ?_ (by assumption) ?_; rotate_left; (first | omega | (simp only [World.size_alloc, World.size_setCell, World.size_drew]; omega))) | assumption))⟩
      · go_enter Try.func11, Try.ntmps11
        go_wp2_with ((go_at_call 26; refine (fits_is _ _ _ h).mono ?_; rintro e w1 ⟨rfl, rfl⟩))
        go_ret
        exact ⟨ret_bool (by rw [Bool.eq_iff_iff]; simp [plValid, h, h1, h2] <;> first | exact Iff.rfl | (intros; omega)), (by repeat (first | exact Below.refl _ _ | apply Below.drew | apply below_drewN | (refine Below.alloc ?_ ?_ _; rotate_left; (first | omega | (simp only [World.size_alloc, World.size_setCell, World.size_drew]; omega))) | (refine Below.setCell ?_ ?_ _; rotate_left; (first | omega | (simp only [World.size_alloc, World.size_setCell, World.size_drew]; omega))) | (refine below_step ?_ (by assumption) ?_; rotate_left; (first | omega | (simp only [World.size_alloc, World.size_setCell, World.size_drew]; omega))) | assumption))⟩
    · go_enter Try.func11, Try.ntmps11
      go_wp2_with ((go_at_call 26; refine (fits_is _ _ _ h).mono ?_; rintro e w1 ⟨rfl, rfl⟩))
      go_ret
      exact ⟨ret_bool (by rw [Bool.eq_iff_iff]; simp [plValid, h, h1] <;> first | exact Iff.rfl | (intros; omega)), (by repeat (first | exact Below.refl _ _ | apply Below.drew | apply below_drewN | (refine Below.alloc ?_ ?_ _; rotate_left; (first | omega | (simp only [World.size_alloc, World.size_setCell, World.size_drew]; omega))) | (refine Below.setCell ?_ ?_ _; rotate_left; (first | omega | (simp only [World.size_alloc, World.size_setCell, World.size_drew]; omega))) | (refine below_step ?_ (by assumption) ?_; rotate_left; (first | omega | (simp only [World.size_alloc, World.size_setCell, World.size_drew]; omega))) | assumption))⟩
  · have h : plSize W H = false := by simpa using h
    go_enter Try.func11, Try.ntmps11
    go_wp2_with ((go_at_call 26; refine (fits_is _ _ _ h).mono ?_; rintro e w1 ⟨rfl, rfl⟩))
    go_ret
    exact ⟨ret_bool (by rw [Bool.eq_iff_iff]; simp [plValid, h] <;> first | exact Iff.rfl | (intros; omega)), (by repeat (first | exact Below.refl _ _ | apply Below.drew | apply below_drewN | (refine Below.alloc ?_ ?_ _; rotate_left; (first | omega | (simp only [World.size_alloc, World.size_setCell, World.size_drew]; omega))) | (refine Below.setCell ?_ ?_ _; rotate_left; (first | omega | (simp only [World.size_alloc, World.size_setCell, World.size_drew]; omega))) | (refine below_step ?_ (by assumption) ?_; rotate_left; (first | omega | (simp only [World.size_alloc, World.size_setCell, World.size_drew]; omega))) | assumption))⟩

end Go.Proofs.Ytpdbiocegbimlaa
