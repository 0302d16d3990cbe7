/-
  Walks: the functions of compositorgen that make numbers and rectangles.
-/
import Derived.Test.YtoljdijpmnadpaaRows
import Derived.Test.YtoljdijpmnadpaaBase
namespace Go.Proofs.Ytoljdijpmnadpaa
open Go.RowKit
set_option linter.unusedVariables false
set_option linter.unusedSimpArgs false

theorem mod_eq {n k : Int} (hk : 1 ≤ k) (hk' : k ≤ 4611686018427387904) : (wrap64 (n.tmod k + k)).tmod k = n % k := by
  have a := Int.tmod_lt_of_pos n (show 0 < k by omega)
  have b : -k < n.tmod k := by
    rcases Int.le_total 0 n with h | h
    · have := Int.tmod_nonneg k h; omega
    · have := Int.tmod_lt_of_pos (-n) (show 0 < k by omega)
      rw [Int.neg_tmod] at this
      omega
  rw [IntWalk.wrap64_in _ ⟨by omega, by omega⟩, Int.tmod_eq_emod_of_nonneg (by omega), Int.add_emod_right, Int.tmod_def]
  rw [show n - k * n.tdiv k = n + k * (-(n.tdiv k)) from by rw [Int.mul_neg]; omega, Int.add_mul_emod_self_left]

set_option maxHeartbeats 400000 in
theorem Mod_any (n k : Int) (w : World) (hk : 1 ≤ k) (hk' : k ≤ 4611686018427387904) :
    Calls Try.prog 9 #[.int .i64 n, .int .i64 k] w fun e w' => e = .returned (.int .i64 (n % k)) ∧ w = w' := by
  go_enter Try.func9, Try.ntmps9
  go_wp2
  go_ret
  exact ⟨ret_int (mod_eq hk hk'), rfl⟩

/-- the rectangle that gen.Rect makes -/
def genC (n0 n2 : Int) : Int := if (wrap64 (n0.tdiv 12) % 30 == 29) = true then 1073741824 + n2 % 3 - 1 else n0 % 12 - 6 + n2 % 8 - 1
def genR (n0 n1 n2 n3 : Int) : Rc := ⟨n0 % 12 - 6, n1 % 12 - 6, genC n0 n2, n1 % 12 - 6 + n3 % 8 - 1⟩

set_option maxHeartbeats 4000000 in
theorem genRect_any (n0 n1 n2 n3 : Int) (w : World) :
    Calls Try.prog 8 #[.agg #[.int .i64 n0, .int .i64 n1, .int .i64 n2, .int .i64 n3]] w fun e w' => e = .returned (.agg #[.int .i64 (genR n0 n1 n2 n3).a, .int .i64 (genR n0 n1 n2 n3).b, .int .i64 (genR n0 n1 n2 n3).c, .int .i64 (genR n0 n1 n2 n3).d]) ∧ Below w.heap.size w w' := by
  have p0 := Int.emod_nonneg n0 (show (12 : Int) ≠ 0 by omega)
  have q0 := Int.emod_lt_of_pos n0 (show (0 : Int) < 12 by omega)
  have p1 := Int.emod_nonneg n1 (show (12 : Int) ≠ 0 by omega)
  have q1 := Int.emod_lt_of_pos n1 (show (0 : Int) < 12 by omega)
  have p2 := Int.emod_nonneg n2 (show (8 : Int) ≠ 0 by omega)
  have q2 := Int.emod_lt_of_pos n2 (show (0 : Int) < 8 by omega)
  have p3 := Int.emod_nonneg n3 (show (8 : Int) ≠ 0 by omega)
  have q3 := Int.emod_lt_of_pos n3 (show (0 : Int) < 8 by omega)
  have p4 := Int.emod_nonneg n2 (show (3 : Int) ≠ 0 by omega)
  have q4 := Int.emod_lt_of_pos n2 (show (0 : Int) < 3 by omega)
  go_enter Try.func8, Try.ntmps8
  go_upto_region 1 with fail
  go_cut [3] (fun s3 wx => s3 = .pointer (some ⟨w.heap.size + 1 + 1, 0, none⟩) ∧ Own wx w.heap.size 24 #[.int .i64 n0, .int .i64 n1, .int .i64 n2, .int .i64 n3] ∧ Own wx (w.heap.size + 1) 23 #[.int .i64 0, .int .i64 0, .int .i64 0, .int .i64 0] ∧
    Own wx (w.heap.size + 1 + 1) 23 #[.int .i64 (n0 % 12 - 6), .int .i64 (n1 % 12 - 6), .int .i64 0, .int .i64 0] ∧ Below w.heap.size w wx)
  case first =>
    have z0 : IntKind.i64.wrap (n0 % 12 - 6) = n0 % 12 - 6 := IntWalk.i64_in _ ⟨by omega, by omega⟩
    have z1 : IntKind.i64.wrap (n1 % 12 - 6) = n1 % 12 - 6 := IntWalk.i64_in _ ⟨by omega, by omega⟩
    go_region_held3 (fun w' => w'.cell? ⟨w.heap.size, 0, none⟩ = some (.int .i64 n0) ∧ w'.cell? ⟨w.heap.size, 1, none⟩ = some (.int .i64 n1)) (go_keep)
      (first | (go_at_call 9; refine (Mod_any _ _ _ (by omega) (by omega)).mono ?_; rintro e w' ⟨rfl, rfl⟩))
    all_goals (go_wp2_with fail; go_meet; exact ⟨rfl, (by (repeat (first | assumption | (refine Own.new_ _ _ _ ?_; (simp; done)) | apply Own.drew | apply Own.drewN | apply Own.alloc | (refine Own.far' ?_ ?_ _; rotate_left; omega) | apply Own.put | (refine Own.below ?_ ?_; rotate_left; assumption))); all_goals rfl), (by (repeat (first | assumption | (refine Own.new_ _ _ _ ?_; (simp; done)) | apply Own.drew | apply Own.drewN | apply Own.alloc | (refine Own.far' ?_ ?_ _; rotate_left; omega) | apply Own.put | (refine Own.below ?_ ?_; rotate_left; assumption))); all_goals rfl), (by (repeat (first | assumption | (refine Own.new_ _ _ _ ?_; (simp; done)) | apply Own.drew | apply Own.drewN | apply Own.alloc | (refine Own.far' ?_ ?_ _; rotate_left; omega) | apply Own.put | (refine Own.below ?_ ?_; rotate_left; assumption))); all_goals rfl), (by repeat (first | exact Below.refl _ _ | apply Below.drew | apply below_drewN | (refine Below.alloc ?_ ?_ _; rotate_left; (first | omega | (simp only [World.size_alloc, World.size_setCell, World.size_drew]; omega))) | (refine Below.setCell ?_ ?_ _; rotate_left; (first | omega | (simp only [World.size_alloc, World.size_setCell, World.size_drew]; omega))) | (refine below_step ?_ (by assumption) ?_; rotate_left; (first | omega | (simp only [World.size_alloc, World.size_setCell, World.size_drew]; omega))) | assumption))⟩)
  case rest =>
    obtain ⟨rfl, o1, o2, o3, bel⟩ := hcut
    have c1 := o1.cell
    have c3 := o3.cell
    have f3 := o3.free
    go_upto_region 2 with fail
    go_cut [] (fun wx => Own wx w.heap.size 24 #[.int .i64 n0, .int .i64 n1, .int .i64 n2, .int .i64 n3] ∧ Own wx (w.heap.size + 1) 23 #[.int .i64 0, .int .i64 0, .int .i64 0, .int .i64 0] ∧
      Own wx (w.heap.size + 1 + 1) 23 #[.int .i64 (n0 % 12 - 6), .int .i64 (n1 % 12 - 6), .int .i64 (n0 % 12 - 6 + n2 % 8 - 1), .int .i64 (n1 % 12 - 6 + n3 % 8 - 1)] ∧ Below w.heap.size w wx)
    case first =>
      have z2 : IntKind.i64.wrap (n0 % 12 - 6 + n2 % 8) = n0 % 12 - 6 + n2 % 8 := IntWalk.i64_in _ ⟨by omega, by omega⟩
      have z3 : IntKind.i64.wrap (n1 % 12 - 6 + n3 % 8) = n1 % 12 - 6 + n3 % 8 := IntWalk.i64_in _ ⟨by omega, by omega⟩
      have z4 : IntKind.i64.wrap (n0 % 12 - 6 + n2 % 8 - 1) = n0 % 12 - 6 + n2 % 8 - 1 := IntWalk.i64_in _ ⟨by omega, by omega⟩
      have z5 : IntKind.i64.wrap (n1 % 12 - 6 + n3 % 8 - 1) = n1 % 12 - 6 + n3 % 8 - 1 := IntWalk.i64_in _ ⟨by omega, by omega⟩
      go_region_held3 (fun w' => w'.cell? ⟨w.heap.size, 2, none⟩ = some (.int .i64 n2) ∧ w'.cell? ⟨w.heap.size, 3, none⟩ = some (.int .i64 n3) ∧ w'.cell? ⟨w.heap.size + 1 + 1, 0, none⟩ = some (.int .i64 (n0 % 12 - 6)) ∧ w'.cell? ⟨w.heap.size + 1 + 1, 1, none⟩ = some (.int .i64 (n1 % 12 - 6))) (first | (refine ⟨?_, ?_, ?_, ?_⟩ <;> ((try rw [World.cell?_drew]); (repeat refine (cell_off (by omega)).trans ?_); simp [c1, c3])) | go_keep)
        (first | (go_at_call 9; refine (Mod_any _ _ _ (by omega) (by omega)).mono ?_; rintro e w' ⟨rfl, rfl⟩))
      all_goals (go_wp2_with fail; go_meet; exact ⟨(by (repeat (first | assumption | (refine Own.new_ _ _ _ ?_; (simp; done)) | apply Own.drew | apply Own.drewN | apply Own.alloc | (refine Own.far' ?_ ?_ _; rotate_left; omega) | apply Own.put | (refine Own.below ?_ ?_; rotate_left; assumption))); all_goals rfl), (by (repeat (first | assumption | (refine Own.new_ _ _ _ ?_; (simp; done)) | apply Own.drew | apply Own.drewN | apply Own.alloc | (refine Own.far' ?_ ?_ _; rotate_left; omega) | apply Own.put | (refine Own.below ?_ ?_; rotate_left; assumption))); all_goals rfl), (by (repeat (first | assumption | (refine Own.new_ _ _ _ ?_; (simp; done)) | apply Own.drew | apply Own.drewN | apply Own.alloc | (refine Own.far' ?_ ?_ _; rotate_left; omega) | apply Own.put | (refine Own.below ?_ ?_; rotate_left; assumption))); all_goals rfl), (by repeat (first | exact Below.refl _ _ | apply Below.drew | apply below_drewN | (refine Below.alloc ?_ ?_ _; rotate_left; (first | omega | (simp only [World.size_alloc, World.size_setCell, World.size_drew]; omega))) | (refine Below.setCell ?_ ?_ _; rotate_left; (first | omega | (simp only [World.size_alloc, World.size_setCell, World.size_drew]; omega))) | (refine below_step ?_ (by assumption) ?_; rotate_left; (first | omega | (simp only [World.size_alloc, World.size_setCell, World.size_drew]; omega))) | assumption))⟩)
    case rest =>
      clear o1 o2 o3 c1 c3 f3 bel
      obtain ⟨o1, o2, o3, bel⟩ := hcut
      have c1 := o1.cell
      have c2 := o2.cell
      have c3 := o3.cell
      have f3 := o3.free
      have f2 := o2.free
      have e1 := o1.lt
      have e2 := o2.lt
      have e3 := o3.lt
      cases hc : (wrap64 (n0.tdiv 12) % 30 == 29) with
      | true =>
        have HC := Lib.hid (show genC n0 n2 = 1073741824 + n2 % 3 - 1 from by simp [genC, hc])
        go_wp2_with (go_at_call 9; refine (Mod_any _ _ _ (by omega) (by omega)).mono ?_; rintro e w' ⟨rfl, rfl⟩)
        exact bodyPost_ret (v := .agg #[.int .i64 (n0 % 12 - 6), .int .i64 (n1 % 12 - 6), .int .i64 (1073741824 + n2 % 3 - 1), .int .i64 (n1 % 12 - 6 + n3 % 8 - 1)]) (by simp [results, Try.results8, go_sem, *]) rfl ⟨by unfold genR; rw [HC.out], (by repeat (first | exact Below.refl _ _ | apply Below.drew | apply below_drewN | (refine Below.alloc ?_ ?_ _; rotate_left; (first | omega | (simp only [World.size_alloc, World.size_setCell, World.size_drew]; omega))) | (refine Below.setCell ?_ ?_ _; rotate_left; (first | omega | (simp only [World.size_alloc, World.size_setCell, World.size_drew]; omega))) | (refine below_step ?_ (by assumption) ?_; rotate_left; (first | omega | (simp only [World.size_alloc, World.size_setCell, World.size_drew]; omega))) | assumption))⟩
      | false =>
        have HC := Lib.hid (show genC n0 n2 = n0 % 12 - 6 + n2 % 8 - 1 from by simp [genC, hc])
        go_wp2_with (go_at_call 9; refine (Mod_any _ _ _ (by omega) (by omega)).mono ?_; rintro e w' ⟨rfl, rfl⟩)
        exact bodyPost_ret (v := .agg #[.int .i64 (n0 % 12 - 6), .int .i64 (n1 % 12 - 6), .int .i64 (n0 % 12 - 6 + n2 % 8 - 1), .int .i64 (n1 % 12 - 6 + n3 % 8 - 1)]) (by simp [results, Try.results8, go_sem, *]) rfl ⟨by unfold genR; rw [HC.out], (by repeat (first | exact Below.refl _ _ | apply Below.drew | apply below_drewN | (refine Below.alloc ?_ ?_ _; rotate_left; (first | omega | (simp only [World.size_alloc, World.size_setCell, World.size_drew]; omega))) | (refine Below.setCell ?_ ?_ _; rotate_left; (first | omega | (simp only [World.size_alloc, World.size_setCell, World.size_drew]; omega))) | (refine below_step ?_ (by assumption) ?_; rotate_left; (first | omega | (simp only [World.size_alloc, World.size_setCell, World.size_drew]; omega))) | assumption))⟩

end Go.Proofs.Ytoljdijpmnadpaa
