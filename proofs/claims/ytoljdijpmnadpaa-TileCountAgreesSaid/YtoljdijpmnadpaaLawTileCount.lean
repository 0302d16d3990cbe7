/-
  Walk of compositorlaw17.TileCountAgrees: it returns true, whatever its arguments hold.
-/
import Derived.Test.YtoljdijpmnadpaaTileC
namespace Go.Proofs.Ytoljdijpmnadpaa
open Go.RowKit
set_option linter.unusedVariables false
set_option linter.unusedSimpArgs false

set_option maxHeartbeats 4000000 in
theorem TileCountAgrees_walk (c0 c1 c2 c3 ww h i n0 n1 n2 n3 u v k : Int) (w : World) (_hi : -9223372036854775808 ≤ i) (_hi' : i ≤ 9223372036854775807) :
    Calls Try.prog 3 #[.agg #[.int .i64 c0, .int .i64 c1, .int .i64 c2, .int .i64 c3], .int .i64 ww, .int .i64 h, .int .i64 i, .agg #[.int .i64 n0, .int .i64 n1, .int .i64 n2, .int .i64 n3], .int .i64 u, .int .i64 v, .int .i64 k] w fun e w' => e = .returned (.bool true) ∧ Below w.heap.size w w' := by
  have p0 := Int.emod_nonneg u (show (9 : Int) ≠ 0 by omega)
  have q0 := Int.emod_lt_of_pos u (show (0 : Int) < 9 by omega)
  have p1 := Int.emod_nonneg v (show (9 : Int) ≠ 0 by omega)
  have q1 := Int.emod_lt_of_pos v (show (0 : Int) < 9 by omega)
  have p2 := Int.emod_nonneg k (show (40 : Int) ≠ 0 by omega)
  have q2 := Int.emod_lt_of_pos k (show (0 : Int) < 40 by omega)
  go_enter Try.func3, Try.ntmps3
  go_wp2_with fail
  refine (genRect_any _ _ _ _ _).mono ?_
  rintro e w1 ⟨rfl, hb1⟩
  have hz1 := hb1.size; (try simp only [World.size_alloc, World.size_setCell, World.size_drew] at hz1)
  have oc_1 : Own w1 (w.heap.size) 23 #[.int .i64 c0, .int .i64 c1, .int .i64 c2, .int .i64 c3] := Own.below (by (repeat (first | assumption | (refine Own.new_ _ _ _ ?_; (simp; done)) | apply Own.drew | apply Own.drewN | apply Own.alloc | (refine Own.far' ?_ ?_ _; rotate_left; omega) | apply Own.put | (refine Own.below ?_ ?_; rotate_left; assumption))); all_goals rfl) hb1
  have on_1 : Own w1 (w.heap.size + 1) 24 #[.int .i64 n0, .int .i64 n1, .int .i64 n2, .int .i64 n3] := Own.below (by (repeat (first | assumption | (refine Own.new_ _ _ _ ?_; (simp; done)) | apply Own.drew | apply Own.drewN | apply Own.alloc | (refine Own.far' ?_ ?_ _; rotate_left; omega) | apply Own.put | (refine Own.below ?_ ?_; rotate_left; assumption))); all_goals rfl) hb1
  have cc_1 := oc_1.cell
  have fc_1 := oc_1.free
  have lc_1 := oc_1.lt
  have cn_1 := on_1.cell
  have fn_1 := on_1.free
  have ln_1 := on_1.lt
  obtain ⟨g0, g1, g2, g3, hg⟩ : ∃ a b c d, genR n0 n1 n2 n3 = ⟨a, b, c, d⟩ := ⟨_, _, _, _, rfl⟩
  rw [hg]
  clear hg
  go_wp2_with fail
  refine (Mod_any _ _ _ (by omega) (by omega)).mono ?_
  rintro e w' ⟨rfl, rfl⟩
  go_wp2_with fail
  refine (Mod_any _ _ _ (by omega) (by omega)).mono ?_
  rintro e w' ⟨rfl, rfl⟩
  go_wp2_with fail
  refine (Mod_any _ _ _ (by omega) (by omega)).mono ?_
  rintro e w' ⟨rfl, rfl⟩
  go_wp2_with fail
  refine (Count_any _ _ _ _ _ _ _).mono ?_
  rintro e w2 ⟨rfl, hb2⟩
  have hz2 := hb2.size; (try simp only [World.size_alloc, World.size_setCell, World.size_drew] at hz2)
  have oc_2 : Own w2 (w.heap.size) 23 #[.int .i64 c0, .int .i64 c1, .int .i64 c2, .int .i64 c3] := Own.below (by (repeat (first | assumption | (refine Own.new_ _ _ _ ?_; (simp; done)) | apply Own.drew | apply Own.drewN | apply Own.alloc | (refine Own.far' ?_ ?_ _; rotate_left; omega) | apply Own.put | (refine Own.below ?_ ?_; rotate_left; assumption))); all_goals rfl) hb2
  have oa_2 : Own w2 (w1.heap.size) 23 #[.int .i64 g0, .int .i64 g1, .int .i64 g2, .int .i64 g3] := Own.below (by (repeat (first | assumption | (refine Own.new_ _ _ _ ?_; (simp; done)) | apply Own.drew | apply Own.drewN | apply Own.alloc | (refine Own.far' ?_ ?_ _; rotate_left; omega) | apply Own.put | (refine Own.below ?_ ?_; rotate_left; assumption))); all_goals rfl) hb2
  clear cc_1 fc_1 cn_1 fn_1
  have cc_2 := oc_2.cell
  have fc_2 := oc_2.free
  have lc_2 := oc_2.lt
  have ca_2 := oa_2.cell
  have fa_2 := oa_2.free
  have la_2 := oa_2.lt
  go_wp2_with fail
  refine (Tiles_any _ _ _ _ _ _ _).mono ?_
  rintro e w3 ⟨rfl, hb3⟩
  have hz3 := hb3.size; (try simp only [World.size_alloc, World.size_setCell, World.size_drew] at hz3)
  have oc_3 : Own w3 (w.heap.size) 23 #[.int .i64 c0, .int .i64 c1, .int .i64 c2, .int .i64 c3] := Own.below (by (repeat (first | assumption | (refine Own.new_ _ _ _ ?_; (simp; done)) | apply Own.drew | apply Own.drewN | apply Own.alloc | (refine Own.far' ?_ ?_ _; rotate_left; omega) | apply Own.put | (refine Own.below ?_ ?_; rotate_left; assumption))); all_goals rfl) hb3
  have oa_3 : Own w3 (w1.heap.size) 23 #[.int .i64 g0, .int .i64 g1, .int .i64 g2, .int .i64 g3] := Own.below (by (repeat (first | assumption | (refine Own.new_ _ _ _ ?_; (simp; done)) | apply Own.drew | apply Own.drewN | apply Own.alloc | (refine Own.far' ?_ ?_ _; rotate_left; omega) | apply Own.put | (refine Own.below ?_ ?_; rotate_left; assumption))); all_goals rfl) hb3
  clear cc_2 fc_2 ca_2 fa_2
  have cc_3 := oc_3.cell
  have fc_3 := oc_3.free
  have lc_3 := oc_3.lt
  have ca_3 := oa_3.cell
  have fa_3 := oa_3.free
  have la_3 := oa_3.lt
  go_wp2_with fail
  refine (TRect_any _ _ _ _ _ _ _ _ (by omega) (by omega)).mono ?_
  rintro e w4 ⟨rfl, hb4⟩
  have hz4 := hb4.size; (try simp only [World.size_alloc, World.size_setCell, World.size_drew] at hz4)
  have oc_4 : Own w4 (w.heap.size) 23 #[.int .i64 c0, .int .i64 c1, .int .i64 c2, .int .i64 c3] := Own.below (by (repeat (first | assumption | (refine Own.new_ _ _ _ ?_; (simp; done)) | apply Own.drew | apply Own.drewN | apply Own.alloc | (refine Own.far' ?_ ?_ _; rotate_left; omega) | apply Own.put | (refine Own.below ?_ ?_; rotate_left; assumption))); all_goals rfl) hb4
  have oa_4 : Own w4 (w1.heap.size) 23 #[.int .i64 g0, .int .i64 g1, .int .i64 g2, .int .i64 g3] := Own.below (by (repeat (first | assumption | (refine Own.new_ _ _ _ ?_; (simp; done)) | apply Own.drew | apply Own.drewN | apply Own.alloc | (refine Own.far' ?_ ?_ _; rotate_left; omega) | apply Own.put | (refine Own.below ?_ ?_; rotate_left; assumption))); all_goals rfl) hb4
  clear cc_3 fc_3 ca_3 fa_3
  have cc_4 := oc_4.cell
  have fc_4 := oc_4.free
  have lc_4 := oc_4.lt
  have ca_4 := oa_4.cell
  have fa_4 := oa_4.free
  have la_4 := oa_4.lt
  go_wp2_with fail
  refine (TTile_any _ _ _ _ _ _ _ _ (by omega) (by omega)).mono ?_
  rintro e w5 ⟨rfl, hb5⟩
  have hz5 := hb5.size; (try simp only [World.size_alloc, World.size_setCell, World.size_drew] at hz5)
  have oc_5 : Own w5 (w.heap.size) 23 #[.int .i64 c0, .int .i64 c1, .int .i64 c2, .int .i64 c3] := Own.below (by (repeat (first | assumption | (refine Own.new_ _ _ _ ?_; (simp; done)) | apply Own.drew | apply Own.drewN | apply Own.alloc | (refine Own.far' ?_ ?_ _; rotate_left; omega) | apply Own.put | (refine Own.below ?_ ?_; rotate_left; assumption))); all_goals rfl) hb5
  have oa_5 : Own w5 (w1.heap.size) 23 #[.int .i64 g0, .int .i64 g1, .int .i64 g2, .int .i64 g3] := Own.below (by (repeat (first | assumption | (refine Own.new_ _ _ _ ?_; (simp; done)) | apply Own.drew | apply Own.drewN | apply Own.alloc | (refine Own.far' ?_ ?_ _; rotate_left; omega) | apply Own.put | (refine Own.below ?_ ?_; rotate_left; assumption))); all_goals rfl) hb5
  have ob_5 : Own w5 (w4.heap.size) 23 #[.int .i64 (tRect ⟨g0, g1, g2, g3⟩ (u % 9 - 1) (v % 9 - 1) (k % 40 - 2)).a, .int .i64 (tRect ⟨g0, g1, g2, g3⟩ (u % 9 - 1) (v % 9 - 1) (k % 40 - 2)).b, .int .i64 (tRect ⟨g0, g1, g2, g3⟩ (u % 9 - 1) (v % 9 - 1) (k % 40 - 2)).c, .int .i64 (tRect ⟨g0, g1, g2, g3⟩ (u % 9 - 1) (v % 9 - 1) (k % 40 - 2)).d] := Own.below (by (repeat (first | assumption | (refine Own.new_ _ _ _ ?_; (simp; done)) | apply Own.drew | apply Own.drewN | apply Own.alloc | (refine Own.far' ?_ ?_ _; rotate_left; omega) | apply Own.put | (refine Own.below ?_ ?_; rotate_left; assumption))); all_goals rfl) hb5
  clear cc_4 fc_4 ca_4 fa_4
  have cc_5 := oc_5.cell
  have fc_5 := oc_5.free
  have lc_5 := oc_5.lt
  have ca_5 := oa_5.cell
  have fa_5 := oa_5.free
  have la_5 := oa_5.lt
  have cb_5 := ob_5.cell
  have fb_5 := ob_5.free
  have lb_5 := ob_5.lt
  go_wp2_with fail
  refine (Count_any _ _ _ _ _ _ _).mono ?_
  rintro e w6 ⟨rfl, hb6⟩
  have hz6 := hb6.size; (try simp only [World.size_alloc, World.size_setCell, World.size_drew] at hz6)
  have oc_6 : Own w6 (w.heap.size) 23 #[.int .i64 c0, .int .i64 c1, .int .i64 c2, .int .i64 c3] := Own.below (by (repeat (first | assumption | (refine Own.new_ _ _ _ ?_; (simp; done)) | apply Own.drew | apply Own.drewN | apply Own.alloc | (refine Own.far' ?_ ?_ _; rotate_left; omega) | apply Own.put | (refine Own.below ?_ ?_; rotate_left; assumption))); all_goals rfl) hb6
  have ob_6 : Own w6 (w4.heap.size) 23 #[.int .i64 (tRect ⟨g0, g1, g2, g3⟩ (u % 9 - 1) (v % 9 - 1) (k % 40 - 2)).a, .int .i64 (tRect ⟨g0, g1, g2, g3⟩ (u % 9 - 1) (v % 9 - 1) (k % 40 - 2)).b, .int .i64 (tRect ⟨g0, g1, g2, g3⟩ (u % 9 - 1) (v % 9 - 1) (k % 40 - 2)).c, .int .i64 (tRect ⟨g0, g1, g2, g3⟩ (u % 9 - 1) (v % 9 - 1) (k % 40 - 2)).d] := Own.below (by (repeat (first | assumption | (refine Own.new_ _ _ _ ?_; (simp; done)) | apply Own.drew | apply Own.drewN | apply Own.alloc | (refine Own.far' ?_ ?_ _; rotate_left; omega) | apply Own.put | (refine Own.below ?_ ?_; rotate_left; assumption))); all_goals rfl) hb6
  have od_6 : Own w6 (w5.heap.size) 23 #[.int .i64 (tRect ⟨g0, g1, g2, g3⟩ (u % 9 - 1) (v % 9 - 1) (k % 40 - 2)).a, .int .i64 (tRect ⟨g0, g1, g2, g3⟩ (u % 9 - 1) (v % 9 - 1) (k % 40 - 2)).b, .int .i64 (tRect ⟨g0, g1, g2, g3⟩ (u % 9 - 1) (v % 9 - 1) (k % 40 - 2)).c, .int .i64 (tRect ⟨g0, g1, g2, g3⟩ (u % 9 - 1) (v % 9 - 1) (k % 40 - 2)).d] := Own.below (by (repeat (first | assumption | (refine Own.new_ _ _ _ ?_; (simp; done)) | apply Own.drew | apply Own.drewN | apply Own.alloc | (refine Own.far' ?_ ?_ _; rotate_left; omega) | apply Own.put | (refine Own.below ?_ ?_; rotate_left; assumption))); all_goals rfl) hb6
  clear cc_5 fc_5 ca_5 fa_5 cb_5 fb_5
  have cc_6 := oc_6.cell
  have fc_6 := oc_6.free
  have lc_6 := oc_6.lt
  have cb_6 := ob_6.cell
  have fb_6 := ob_6.free
  have lb_6 := ob_6.lt
  have cd_6 := od_6.cell
  have fd_6 := od_6.free
  have ld_6 := od_6.lt
  go_wp2_with fail
  refine (Tiles_any _ _ _ _ _ _ _).mono ?_
  rintro e w7 ⟨rfl, hb7⟩
  have hz7 := hb7.size; (try simp only [World.size_alloc, World.size_setCell, World.size_drew] at hz7)
  have oc_7 : Own w7 (w.heap.size) 23 #[.int .i64 c0, .int .i64 c1, .int .i64 c2, .int .i64 c3] := Own.below (by (repeat (first | assumption | (refine Own.new_ _ _ _ ?_; (simp; done)) | apply Own.drew | apply Own.drewN | apply Own.alloc | (refine Own.far' ?_ ?_ _; rotate_left; omega) | apply Own.put | (refine Own.below ?_ ?_; rotate_left; assumption))); all_goals rfl) hb7
  have ob_7 : Own w7 (w4.heap.size) 23 #[.int .i64 (tRect ⟨g0, g1, g2, g3⟩ (u % 9 - 1) (v % 9 - 1) (k % 40 - 2)).a, .int .i64 (tRect ⟨g0, g1, g2, g3⟩ (u % 9 - 1) (v % 9 - 1) (k % 40 - 2)).b, .int .i64 (tRect ⟨g0, g1, g2, g3⟩ (u % 9 - 1) (v % 9 - 1) (k % 40 - 2)).c, .int .i64 (tRect ⟨g0, g1, g2, g3⟩ (u % 9 - 1) (v % 9 - 1) (k % 40 - 2)).d] := Own.below (by (repeat (first | assumption | (refine Own.new_ _ _ _ ?_; (simp; done)) | apply Own.drew | apply Own.drewN | apply Own.alloc | (refine Own.far' ?_ ?_ _; rotate_left; omega) | apply Own.put | (refine Own.below ?_ ?_; rotate_left; assumption))); all_goals rfl) hb7
  have od_7 : Own w7 (w5.heap.size) 23 #[.int .i64 (tRect ⟨g0, g1, g2, g3⟩ (u % 9 - 1) (v % 9 - 1) (k % 40 - 2)).a, .int .i64 (tRect ⟨g0, g1, g2, g3⟩ (u % 9 - 1) (v % 9 - 1) (k % 40 - 2)).b, .int .i64 (tRect ⟨g0, g1, g2, g3⟩ (u % 9 - 1) (v % 9 - 1) (k % 40 - 2)).c, .int .i64 (tRect ⟨g0, g1, g2, g3⟩ (u % 9 - 1) (v % 9 - 1) (k % 40 - 2)).d] := Own.below (by (repeat (first | assumption | (refine Own.new_ _ _ _ ?_; (simp; done)) | apply Own.drew | apply Own.drewN | apply Own.alloc | (refine Own.far' ?_ ?_ _; rotate_left; omega) | apply Own.put | (refine Own.below ?_ ?_; rotate_left; assumption))); all_goals rfl) hb7
  clear cc_6 fc_6 cb_6 fb_6 cd_6 fd_6
  have cc_7 := oc_7.cell
  have fc_7 := oc_7.free
  have lc_7 := oc_7.lt
  have cb_7 := ob_7.cell
  have fb_7 := ob_7.free
  have lb_7 := ob_7.lt
  have cd_7 := od_7.cell
  have fd_7 := od_7.free
  have ld_7 := od_7.lt
  go_wp2_with fail
  refine (TRect_any _ _ _ _ _ _ _ _ (by omega) (by omega)).mono ?_
  rintro e w8 ⟨rfl, hb8⟩
  have hz8 := hb8.size; (try simp only [World.size_alloc, World.size_setCell, World.size_drew] at hz8)
  have oc_8 : Own w8 (w.heap.size) 23 #[.int .i64 c0, .int .i64 c1, .int .i64 c2, .int .i64 c3] := Own.below (by (repeat (first | assumption | (refine Own.new_ _ _ _ ?_; (simp; done)) | apply Own.drew | apply Own.drewN | apply Own.alloc | (refine Own.far' ?_ ?_ _; rotate_left; omega) | apply Own.put | (refine Own.below ?_ ?_; rotate_left; assumption))); all_goals rfl) hb8
  have ob_8 : Own w8 (w4.heap.size) 23 #[.int .i64 (tRect ⟨g0, g1, g2, g3⟩ (u % 9 - 1) (v % 9 - 1) (k % 40 - 2)).a, .int .i64 (tRect ⟨g0, g1, g2, g3⟩ (u % 9 - 1) (v % 9 - 1) (k % 40 - 2)).b, .int .i64 (tRect ⟨g0, g1, g2, g3⟩ (u % 9 - 1) (v % 9 - 1) (k % 40 - 2)).c, .int .i64 (tRect ⟨g0, g1, g2, g3⟩ (u % 9 - 1) (v % 9 - 1) (k % 40 - 2)).d] := Own.below (by (repeat (first | assumption | (refine Own.new_ _ _ _ ?_; (simp; done)) | apply Own.drew | apply Own.drewN | apply Own.alloc | (refine Own.far' ?_ ?_ _; rotate_left; omega) | apply Own.put | (refine Own.below ?_ ?_; rotate_left; assumption))); all_goals rfl) hb8
  have od_8 : Own w8 (w5.heap.size) 23 #[.int .i64 (tRect ⟨g0, g1, g2, g3⟩ (u % 9 - 1) (v % 9 - 1) (k % 40 - 2)).a, .int .i64 (tRect ⟨g0, g1, g2, g3⟩ (u % 9 - 1) (v % 9 - 1) (k % 40 - 2)).b, .int .i64 (tRect ⟨g0, g1, g2, g3⟩ (u % 9 - 1) (v % 9 - 1) (k % 40 - 2)).c, .int .i64 (tRect ⟨g0, g1, g2, g3⟩ (u % 9 - 1) (v % 9 - 1) (k % 40 - 2)).d] := Own.below (by (repeat (first | assumption | (refine Own.new_ _ _ _ ?_; (simp; done)) | apply Own.drew | apply Own.drewN | apply Own.alloc | (refine Own.far' ?_ ?_ _; rotate_left; omega) | apply Own.put | (refine Own.below ?_ ?_; rotate_left; assumption))); all_goals rfl) hb8
  clear cc_7 fc_7 cb_7 fb_7 cd_7 fd_7
  have cc_8 := oc_8.cell
  have fc_8 := oc_8.free
  have lc_8 := oc_8.lt
  have cb_8 := ob_8.cell
  have fb_8 := ob_8.free
  have lb_8 := ob_8.lt
  have cd_8 := od_8.cell
  have fd_8 := od_8.free
  have ld_8 := od_8.lt
  go_wp2_with fail
  refine (TTile_any _ _ _ _ _ _ _ _ (by omega) (by omega)).mono ?_
  rintro e w9 ⟨rfl, hb9⟩
  have hz9 := hb9.size; (try simp only [World.size_alloc, World.size_setCell, World.size_drew] at hz9)
  have oc_9 : Own w9 (w.heap.size) 23 #[.int .i64 c0, .int .i64 c1, .int .i64 c2, .int .i64 c3] := Own.below (by (repeat (first | assumption | (refine Own.new_ _ _ _ ?_; (simp; done)) | apply Own.drew | apply Own.drewN | apply Own.alloc | (refine Own.far' ?_ ?_ _; rotate_left; omega) | apply Own.put | (refine Own.below ?_ ?_; rotate_left; assumption))); all_goals rfl) hb9
  have ob_9 : Own w9 (w4.heap.size) 23 #[.int .i64 (tRect ⟨g0, g1, g2, g3⟩ (u % 9 - 1) (v % 9 - 1) (k % 40 - 2)).a, .int .i64 (tRect ⟨g0, g1, g2, g3⟩ (u % 9 - 1) (v % 9 - 1) (k % 40 - 2)).b, .int .i64 (tRect ⟨g0, g1, g2, g3⟩ (u % 9 - 1) (v % 9 - 1) (k % 40 - 2)).c, .int .i64 (tRect ⟨g0, g1, g2, g3⟩ (u % 9 - 1) (v % 9 - 1) (k % 40 - 2)).d] := Own.below (by (repeat (first | assumption | (refine Own.new_ _ _ _ ?_; (simp; done)) | apply Own.drew | apply Own.drewN | apply Own.alloc | (refine Own.far' ?_ ?_ _; rotate_left; omega) | apply Own.put | (refine Own.below ?_ ?_; rotate_left; assumption))); all_goals rfl) hb9
  have od_9 : Own w9 (w5.heap.size) 23 #[.int .i64 (tRect ⟨g0, g1, g2, g3⟩ (u % 9 - 1) (v % 9 - 1) (k % 40 - 2)).a, .int .i64 (tRect ⟨g0, g1, g2, g3⟩ (u % 9 - 1) (v % 9 - 1) (k % 40 - 2)).b, .int .i64 (tRect ⟨g0, g1, g2, g3⟩ (u % 9 - 1) (v % 9 - 1) (k % 40 - 2)).c, .int .i64 (tRect ⟨g0, g1, g2, g3⟩ (u % 9 - 1) (v % 9 - 1) (k % 40 - 2)).d] := Own.below (by (repeat (first | assumption | (refine Own.new_ _ _ _ ?_; (simp; done)) | apply Own.drew | apply Own.drewN | apply Own.alloc | (refine Own.far' ?_ ?_ _; rotate_left; omega) | apply Own.put | (refine Own.below ?_ ?_; rotate_left; assumption))); all_goals rfl) hb9
  have ot_9 : Own w9 (w8.heap.size) 23 #[.int .i64 (tRect ⟨c0, c1, c2, c3⟩ ww h i).a, .int .i64 (tRect ⟨c0, c1, c2, c3⟩ ww h i).b, .int .i64 (tRect ⟨c0, c1, c2, c3⟩ ww h i).c, .int .i64 (tRect ⟨c0, c1, c2, c3⟩ ww h i).d] := Own.below (by (repeat (first | assumption | (refine Own.new_ _ _ _ ?_; (simp; done)) | apply Own.drew | apply Own.drewN | apply Own.alloc | (refine Own.far' ?_ ?_ _; rotate_left; omega) | apply Own.put | (refine Own.below ?_ ?_; rotate_left; assumption))); all_goals rfl) hb9
  clear cc_8 fc_8 cb_8 fb_8 cd_8 fd_8
  have cc_9 := oc_9.cell
  have fc_9 := oc_9.free
  have lc_9 := oc_9.lt
  have cb_9 := ob_9.cell
  have fb_9 := ob_9.free
  have lb_9 := ob_9.lt
  have cd_9 := od_9.cell
  have fd_9 := od_9.free
  have ld_9 := od_9.lt
  have ct_9 := ot_9.cell
  have ft_9 := ot_9.free
  have lt_9 := ot_9.lt
  go_wp2_with fail
  refine (awake17_any _).mono ?_
  rintro e w10 ⟨rfl, hb10⟩
  have hz10 := hb10.size; (try simp only [World.size_alloc, World.size_setCell, World.size_drew] at hz10)
  have ob_10 : Own w10 (w4.heap.size) 23 #[.int .i64 (tRect ⟨g0, g1, g2, g3⟩ (u % 9 - 1) (v % 9 - 1) (k % 40 - 2)).a, .int .i64 (tRect ⟨g0, g1, g2, g3⟩ (u % 9 - 1) (v % 9 - 1) (k % 40 - 2)).b, .int .i64 (tRect ⟨g0, g1, g2, g3⟩ (u % 9 - 1) (v % 9 - 1) (k % 40 - 2)).c, .int .i64 (tRect ⟨g0, g1, g2, g3⟩ (u % 9 - 1) (v % 9 - 1) (k % 40 - 2)).d] := Own.below (by (repeat (first | assumption | (refine Own.new_ _ _ _ ?_; (simp; done)) | apply Own.drew | apply Own.drewN | apply Own.alloc | (refine Own.far' ?_ ?_ _; rotate_left; omega) | apply Own.put | (refine Own.below ?_ ?_; rotate_left; assumption))); all_goals rfl) hb10
  have od_10 : Own w10 (w5.heap.size) 23 #[.int .i64 (tRect ⟨g0, g1, g2, g3⟩ (u % 9 - 1) (v % 9 - 1) (k % 40 - 2)).a, .int .i64 (tRect ⟨g0, g1, g2, g3⟩ (u % 9 - 1) (v % 9 - 1) (k % 40 - 2)).b, .int .i64 (tRect ⟨g0, g1, g2, g3⟩ (u % 9 - 1) (v % 9 - 1) (k % 40 - 2)).c, .int .i64 (tRect ⟨g0, g1, g2, g3⟩ (u % 9 - 1) (v % 9 - 1) (k % 40 - 2)).d] := Own.below (by (repeat (first | assumption | (refine Own.new_ _ _ _ ?_; (simp; done)) | apply Own.drew | apply Own.drewN | apply Own.alloc | (refine Own.far' ?_ ?_ _; rotate_left; omega) | apply Own.put | (refine Own.below ?_ ?_; rotate_left; assumption))); all_goals rfl) hb10
  have ot_10 : Own w10 (w8.heap.size) 23 #[.int .i64 (tRect ⟨c0, c1, c2, c3⟩ ww h i).a, .int .i64 (tRect ⟨c0, c1, c2, c3⟩ ww h i).b, .int .i64 (tRect ⟨c0, c1, c2, c3⟩ ww h i).c, .int .i64 (tRect ⟨c0, c1, c2, c3⟩ ww h i).d] := Own.below (by (repeat (first | assumption | (refine Own.new_ _ _ _ ?_; (simp; done)) | apply Own.drew | apply Own.drewN | apply Own.alloc | (refine Own.far' ?_ ?_ _; rotate_left; omega) | apply Own.put | (refine Own.below ?_ ?_; rotate_left; assumption))); all_goals rfl) hb10
  have oz_10 : Own w10 (w9.heap.size) 23 #[.int .i64 (tRect ⟨c0, c1, c2, c3⟩ ww h i).a, .int .i64 (tRect ⟨c0, c1, c2, c3⟩ ww h i).b, .int .i64 (tRect ⟨c0, c1, c2, c3⟩ ww h i).c, .int .i64 (tRect ⟨c0, c1, c2, c3⟩ ww h i).d] := Own.below (by (repeat (first | assumption | (refine Own.new_ _ _ _ ?_; (simp; done)) | apply Own.drew | apply Own.drewN | apply Own.alloc | (refine Own.far' ?_ ?_ _; rotate_left; omega) | apply Own.put | (refine Own.below ?_ ?_; rotate_left; assumption))); all_goals rfl) hb10
  clear cc_9 fc_9 cb_9 fb_9 cd_9 fd_9 ct_9 ft_9
  have cb_10 := ob_10.cell
  have fb_10 := ob_10.free
  have lb_10 := ob_10.lt
  have cd_10 := od_10.cell
  have fd_10 := od_10.free
  have ld_10 := od_10.lt
  have ct_10 := ot_10.cell
  have ft_10 := ot_10.free
  have lt_10 := ot_10.lt
  have cz_10 := oz_10.cell
  have fz_10 := oz_10.free
  have lz_10 := oz_10.lt
  go_wp2
  go_ret
  exact ⟨rfl, (by repeat (first | exact Below.refl _ _ | apply Below.drew | apply below_drewN | (refine Below.alloc ?_ ?_ _; rotate_left; (first | omega | (simp only [World.size_alloc, World.size_setCell, World.size_drew]; omega))) | (refine Below.setCell ?_ ?_ _; rotate_left; (first | omega | (simp only [World.size_alloc, World.size_setCell, World.size_drew]; omega))) | (refine below_step ?_ (by assumption) ?_; rotate_left; (first | omega | (simp only [World.size_alloc, World.size_setCell, World.size_drew]; omega))) | assumption))⟩

end Go.Proofs.Ytoljdijpmnadpaa
