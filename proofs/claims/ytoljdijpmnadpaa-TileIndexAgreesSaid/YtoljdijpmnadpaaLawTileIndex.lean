/-
  Walk of compositorlaw17.TileIndexAgrees: it returns true, whatever its arguments hold.
-/
import Derived.Test.YtoljdijpmnadpaaTileC
import Derived.Test.YtoljdijpmnadpaaTileD
namespace Go.Proofs.Ytoljdijpmnadpaa
open Go.RowKit
set_option linter.unusedVariables false
set_option linter.unusedSimpArgs false

set_option maxHeartbeats 4000000 in
theorem TileIndexAgrees_walk (n0 n1 n2 n3 ww h x y c0 c1 c2 c3 : Int) (w : World) (lx : -9223372036854775808 ≤ x) (hx : x ≤ 9223372036854775807) (ly : -9223372036854775808 ≤ y) (hy : y ≤ 9223372036854775807) :
    Calls Try.prog 4 #[.agg #[.int .i64 n0, .int .i64 n1, .int .i64 n2, .int .i64 n3], .int .i64 ww, .int .i64 h, .int .i64 x, .int .i64 y, .agg #[.int .i64 c0, .int .i64 c1, .int .i64 c2, .int .i64 c3]] w fun e w' => e = .returned (.bool true) ∧ Below w.heap.size w w' := by
  have p0 := Int.emod_nonneg ww (show (8 : Int) ≠ 0 by omega)
  have q0 := Int.emod_lt_of_pos ww (show (0 : Int) < 8 by omega)
  have p1 := Int.emod_nonneg h (show (8 : Int) ≠ 0 by omega)
  have q1 := Int.emod_lt_of_pos h (show (0 : Int) < 8 by omega)
  have p2 := Int.emod_nonneg x (show (20 : Int) ≠ 0 by omega)
  have q2 := Int.emod_lt_of_pos x (show (0 : Int) < 20 by omega)
  have p3 := Int.emod_nonneg y (show (20 : Int) ≠ 0 by omega)
  have q3 := Int.emod_lt_of_pos y (show (0 : Int) < 20 by omega)
  go_enter Try.func4, Try.ntmps4
  go_wp2_with fail
  refine (genRect_any _ _ _ _ _).mono ?_
  rintro e w1 ⟨rfl, hb1⟩
  have hz1 := hb1.size; (try simp only [World.size_alloc, World.size_setCell, World.size_drew] at hz1)
  have on_1 : Own w1 (w.heap.size) 24 #[.int .i64 n0, .int .i64 n1, .int .i64 n2, .int .i64 n3] := Own.below (by (repeat (first | assumption | (refine Own.new_ _ _ _ ?_; (simp; done)) | apply Own.drew | apply Own.drewN | apply Own.alloc | (refine Own.far' ?_ ?_ _; rotate_left; omega) | apply Own.put | (refine Own.below ?_ ?_; rotate_left; assumption))); all_goals rfl) hb1
  have oc_1 : Own w1 (w.heap.size + 1) 23 #[.int .i64 c0, .int .i64 c1, .int .i64 c2, .int .i64 c3] := Own.below (by (repeat (first | assumption | (refine Own.new_ _ _ _ ?_; (simp; done)) | apply Own.drew | apply Own.drewN | apply Own.alloc | (refine Own.far' ?_ ?_ _; rotate_left; omega) | apply Own.put | (refine Own.below ?_ ?_; rotate_left; assumption))); all_goals rfl) hb1
  have cn_1 := on_1.cell
  have fn_1 := on_1.free
  have ln_1 := on_1.lt
  have cc_1 := oc_1.cell
  have fc_1 := oc_1.free
  have lc_1 := oc_1.lt
  obtain ⟨g0, g1, g2, g3, hg⟩ : ∃ a b c d, genR n0 n1 n2 n3 = ⟨a, b, c, d⟩ := ⟨_, _, _, _, rfl⟩
  rw [hg]
  clear hg
  go_wp2_with fail
  refine (Mod_any _ _ _ (by omega) (by omega)).mono ?_
  rintro e w' ⟨rfl, rfl⟩
  go_wp2_with fail
  refine (Mod_any _ _ _ (by omega) (by omega)).mono ?_
  rintro e w' ⟨rfl, rfl⟩
  go_wp2_with fail
  refine (Mod_any _ _ _ (by omega) (by omega)).mono ?_
  rintro e w' ⟨rfl, rfl⟩
  go_wp2_with fail
  refine (Mod_any _ _ _ (by omega) (by omega)).mono ?_
  rintro e w' ⟨rfl, rfl⟩
  go_wp2_with fail
  refine (Index_any _ _ _ _ _ _ _ _ _ (by omega) (by omega) (by omega) (by omega)).mono ?_
  rintro e w2 ⟨rfl, hb2⟩
  have hz2 := hb2.size; (try simp only [World.size_alloc, World.size_setCell, World.size_drew] at hz2)
  have oc_2 : Own w2 (w.heap.size + 1) 23 #[.int .i64 c0, .int .i64 c1, .int .i64 c2, .int .i64 c3] := Own.below (by (repeat (first | assumption | (refine Own.new_ _ _ _ ?_; (simp; done)) | apply Own.drew | apply Own.drewN | apply Own.alloc | (refine Own.far' ?_ ?_ _; rotate_left; omega) | apply Own.put | (refine Own.below ?_ ?_; rotate_left; assumption))); all_goals rfl) hb2
  have oa_2 : Own w2 (w1.heap.size) 23 #[.int .i64 g0, .int .i64 g1, .int .i64 g2, .int .i64 g3] := Own.below (by (repeat (first | assumption | (refine Own.new_ _ _ _ ?_; (simp; done)) | apply Own.drew | apply Own.drewN | apply Own.alloc | (refine Own.far' ?_ ?_ _; rotate_left; omega) | apply Own.put | (refine Own.below ?_ ?_; rotate_left; assumption))); all_goals rfl) hb2
  clear cn_1 fn_1 cc_1 fc_1
  have cc_2 := oc_2.cell
  have fc_2 := oc_2.free
  have lc_2 := oc_2.lt
  have ca_2 := oa_2.cell
  have fa_2 := oa_2.free
  have la_2 := oa_2.lt
  go_wp2_with fail
  refine (TileIndex_any _ _ _ _ _ _ _ _ _ (by omega) (by omega) (by omega) (by omega)).mono ?_
  rintro e w3 ⟨rfl, hb3⟩
  have hz3 := hb3.size; (try simp only [World.size_alloc, World.size_setCell, World.size_drew] at hz3)
  have oc_3 : Own w3 (w.heap.size + 1) 23 #[.int .i64 c0, .int .i64 c1, .int .i64 c2, .int .i64 c3] := Own.below (by (repeat (first | assumption | (refine Own.new_ _ _ _ ?_; (simp; done)) | apply Own.drew | apply Own.drewN | apply Own.alloc | (refine Own.far' ?_ ?_ _; rotate_left; omega) | apply Own.put | (refine Own.below ?_ ?_; rotate_left; assumption))); all_goals rfl) hb3
  have oa_3 : Own w3 (w1.heap.size) 23 #[.int .i64 g0, .int .i64 g1, .int .i64 g2, .int .i64 g3] := Own.below (by (repeat (first | assumption | (refine Own.new_ _ _ _ ?_; (simp; done)) | apply Own.drew | apply Own.drewN | apply Own.alloc | (refine Own.far' ?_ ?_ _; rotate_left; omega) | apply Own.put | (refine Own.below ?_ ?_; rotate_left; assumption))); all_goals rfl) hb3
  clear cc_2 fc_2 ca_2 fa_2
  have cc_3 := oc_3.cell
  have fc_3 := oc_3.free
  have lc_3 := oc_3.lt
  have ca_3 := oa_3.cell
  have fa_3 := oa_3.free
  have la_3 := oa_3.lt
  go_wp2_with fail
  refine (Index_any _ _ _ _ _ _ _ _ _ (by omega) (by omega) (by omega) (by omega)).mono ?_
  rintro e w4 ⟨rfl, hb4⟩
  have hz4 := hb4.size; (try simp only [World.size_alloc, World.size_setCell, World.size_drew] at hz4)
  have oc_4 : Own w4 (w.heap.size + 1) 23 #[.int .i64 c0, .int .i64 c1, .int .i64 c2, .int .i64 c3] := Own.below (by (repeat (first | assumption | (refine Own.new_ _ _ _ ?_; (simp; done)) | apply Own.drew | apply Own.drewN | apply Own.alloc | (refine Own.far' ?_ ?_ _; rotate_left; omega) | apply Own.put | (refine Own.below ?_ ?_; rotate_left; assumption))); all_goals rfl) hb4
  clear cc_3 fc_3 ca_3 fa_3
  have cc_4 := oc_4.cell
  have fc_4 := oc_4.free
  have lc_4 := oc_4.lt
  go_wp2_with fail
  refine (TileIndex_any _ _ _ _ _ _ _ _ _ (by omega) (by omega) (by omega) (by omega)).mono ?_
  rintro e w5 ⟨rfl, hb5⟩
  have hz5 := hb5.size; (try simp only [World.size_alloc, World.size_setCell, World.size_drew] at hz5)
  have oc_5 : Own w5 (w.heap.size + 1) 23 #[.int .i64 c0, .int .i64 c1, .int .i64 c2, .int .i64 c3] := Own.below (by (repeat (first | assumption | (refine Own.new_ _ _ _ ?_; (simp; done)) | apply Own.drew | apply Own.drewN | apply Own.alloc | (refine Own.far' ?_ ?_ _; rotate_left; omega) | apply Own.put | (refine Own.below ?_ ?_; rotate_left; assumption))); all_goals rfl) hb5
  clear cc_4 fc_4
  have cc_5 := oc_5.cell
  have fc_5 := oc_5.free
  have lc_5 := oc_5.lt
  go_wp2_with fail
  refine (awake17_any _).mono ?_
  rintro e w6 ⟨rfl, hb6⟩
  have hz6 := hb6.size; (try simp only [World.size_alloc, World.size_setCell, World.size_drew] at hz6)
  clear cc_5 fc_5
  go_wp2
  go_ret
  exact ⟨rfl, (by repeat (first | exact Below.refl _ _ | apply Below.drew | apply below_drewN | (refine Below.alloc ?_ ?_ _; rotate_left; (first | omega | (simp only [World.size_alloc, World.size_setCell, World.size_drew]; omega))) | (refine Below.setCell ?_ ?_ _; rotate_left; (first | omega | (simp only [World.size_alloc, World.size_setCell, World.size_drew]; omega))) | (refine below_step ?_ (by assumption) ?_; rotate_left; (first | omega | (simp only [World.size_alloc, World.size_setCell, World.size_drew]; omega))) | assumption))⟩

end Go.Proofs.Ytoljdijpmnadpaa
