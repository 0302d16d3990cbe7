/-
  Walk of compositorlaw14.PlaneNewRejects: it returns true, whatever the number.
-/
import Derived.Test.YtpdbiocegbimlaaLaw14A
import Derived.Test.YtpdbiocegbimlaaMod
namespace Go.Proofs.Ytpdbiocegbimlaa
open Go.RowKit
set_option linter.unusedVariables false
set_option linter.unusedSimpArgs false

theorem plNew_not {W H S : Int} (h : ¬ (1 ≤ W ∧ 1 ≤ H ∧ W * H ≤ 16777216 ∧ W ≤ S ∧ S ≤ 16777216 ∧ (H - 1) * S + W ≤ 16777216)) : plNew W H S = false := by
  cases hh : plNew W H S with
  | false => rfl
  | true =>
    obtain ⟨h0, h1, h2, h3⟩ := plNew_yes hh
    obtain ⟨a1, a2, a3, a4, a5⟩ := plSize_true h0
    exact absurd ⟨a1, a2, a3, h1, h2, h3⟩ h
theorem sl_zero (w : World) (A : Option Addr) : Sl w 1 A 0 (us []) := ⟨rfl, fun h => absurd h (by omega)⟩

set_option maxHeartbeats 4000000 in
theorem PlaneNewRejects_walk (x : Int) (w : World) : Calls Try.prog 4 #[.int .i64 x] w fun e w' => e = .returned (.bool true) ∧ Below w.heap.size w w' := by
  have p0 := Int.emod_nonneg x (show (1000 : Int) ≠ 0 by omega)
  have q0 := Int.emod_lt_of_pos x (show (0 : Int) < 1000 by omega)
  go_enter Try.func4, Try.ntmps4
  go_wp2_with fail
  refine (Mod_any _ _ _ (by omega) (by omega)).mono ?_
  rintro e w' ⟨rfl, rfl⟩
  go_wp2_with fail
  refine (New_no _ _ _ _ (plNew_not (by omega))).mono ?_
  rintro e w1 ⟨A1, c1, rfl, hs1, hb1, hc1, hd1⟩
  rw [show ([] : List Int).length = 0 from rfl] at hc1 ⊢
  clear hs1 hc1 hd1
  have hz1 := hb1.size; (try simp only [World.size_alloc, World.size_setCell, World.size_drew] at hz1)
  go_wp2_with fail
  refine (New_no _ _ _ _ (plNew_not (by omega))).mono ?_
  rintro e w2 ⟨A2, c2, rfl, hs2, hb2, hc2, hd2⟩
  rw [show ([] : List Int).length = 0 from rfl] at hc2 ⊢
  clear hs2 hc2 hd2
  have hz2 := hb2.size; (try simp only [World.size_alloc, World.size_setCell, World.size_drew] at hz2)
  have oa_2 : Own w2 (w1.heap.size) 24 #[.int .i64 0, .int .i64 0, .int .i64 0, .slice A1 0 c1] := Own.below (by (repeat (first | assumption | (refine Own.new_ _ _ _ ?_; (simp; done)) | apply Own.drew | apply Own.drewN | apply Own.alloc | (refine Own.far' ?_ ?_ _; rotate_left; omega) | apply Own.put | (refine Own.below ?_ ?_; rotate_left; assumption))); all_goals rfl) hb2
  have ca_2 := oa_2.cell
  have fa_2 := oa_2.free
  have la_2 := oa_2.lt
  go_wp2_with fail
  refine (New_no _ _ _ _ (plNew_not (by omega))).mono ?_
  rintro e w3 ⟨A3, c3, rfl, hs3, hb3, hc3, hd3⟩
  rw [show ([] : List Int).length = 0 from rfl] at hc3 ⊢
  clear hs3 hc3 hd3
  have hz3 := hb3.size; (try simp only [World.size_alloc, World.size_setCell, World.size_drew] at hz3)
  have oa_3 : Own w3 (w1.heap.size) 24 #[.int .i64 0, .int .i64 0, .int .i64 0, .slice A1 0 c1] := Own.below (by (repeat (first | assumption | (refine Own.new_ _ _ _ ?_; (simp; done)) | apply Own.drew | apply Own.drewN | apply Own.alloc | (refine Own.far' ?_ ?_ _; rotate_left; omega) | apply Own.put | (refine Own.below ?_ ?_; rotate_left; assumption))); all_goals rfl) hb3
  have ob_3 : Own w3 (w2.heap.size) 24 #[.int .i64 0, .int .i64 0, .int .i64 0, .slice A2 0 c2] := Own.below (by (repeat (first | assumption | (refine Own.new_ _ _ _ ?_; (simp; done)) | apply Own.drew | apply Own.drewN | apply Own.alloc | (refine Own.far' ?_ ?_ _; rotate_left; omega) | apply Own.put | (refine Own.below ?_ ?_; rotate_left; assumption))); all_goals rfl) hb3
  clear ca_2 fa_2
  have ca_3 := oa_3.cell
  have fa_3 := oa_3.free
  have la_3 := oa_3.lt
  have cb_3 := ob_3.cell
  have fb_3 := ob_3.free
  have lb_3 := ob_3.lt
  go_wp2_with fail
  refine (New_no _ _ _ _ (plNew_not (by omega))).mono ?_
  rintro e w4 ⟨A4, c4, rfl, hs4, hb4, hc4, hd4⟩
  rw [show ([] : List Int).length = 0 from rfl] at hc4 ⊢
  clear hs4 hc4 hd4
  have hz4 := hb4.size; (try simp only [World.size_alloc, World.size_setCell, World.size_drew] at hz4)
  have oa_4 : Own w4 (w1.heap.size) 24 #[.int .i64 0, .int .i64 0, .int .i64 0, .slice A1 0 c1] := Own.below (by (repeat (first | assumption | (refine Own.new_ _ _ _ ?_; (simp; done)) | apply Own.drew | apply Own.drewN | apply Own.alloc | (refine Own.far' ?_ ?_ _; rotate_left; omega) | apply Own.put | (refine Own.below ?_ ?_; rotate_left; assumption))); all_goals rfl) hb4
  have ob_4 : Own w4 (w2.heap.size) 24 #[.int .i64 0, .int .i64 0, .int .i64 0, .slice A2 0 c2] := Own.below (by (repeat (first | assumption | (refine Own.new_ _ _ _ ?_; (simp; done)) | apply Own.drew | apply Own.drewN | apply Own.alloc | (refine Own.far' ?_ ?_ _; rotate_left; omega) | apply Own.put | (refine Own.below ?_ ?_; rotate_left; assumption))); all_goals rfl) hb4
  have oc_4 : Own w4 (w3.heap.size) 24 #[.int .i64 0, .int .i64 0, .int .i64 0, .slice A3 0 c3] := Own.below (by (repeat (first | assumption | (refine Own.new_ _ _ _ ?_; (simp; done)) | apply Own.drew | apply Own.drewN | apply Own.alloc | (refine Own.far' ?_ ?_ _; rotate_left; omega) | apply Own.put | (refine Own.below ?_ ?_; rotate_left; assumption))); all_goals rfl) hb4
  clear ca_3 fa_3 cb_3 fb_3
  have ca_4 := oa_4.cell
  have fa_4 := oa_4.free
  have la_4 := oa_4.lt
  have cb_4 := ob_4.cell
  have fb_4 := ob_4.free
  have lb_4 := ob_4.lt
  have cc_4 := oc_4.cell
  have fc_4 := oc_4.free
  have lc_4 := oc_4.lt
  go_wp2_with fail
  refine (New_no _ _ _ _ (plNew_not (by omega))).mono ?_
  rintro e w5 ⟨A5, c5, rfl, hs5, hb5, hc5, hd5⟩
  rw [show ([] : List Int).length = 0 from rfl] at hc5 ⊢
  clear hs5 hc5 hd5
  have hz5 := hb5.size; (try simp only [World.size_alloc, World.size_setCell, World.size_drew] at hz5)
  have oa_5 : Own w5 (w1.heap.size) 24 #[.int .i64 0, .int .i64 0, .int .i64 0, .slice A1 0 c1] := Own.below (by (repeat (first | assumption | (refine Own.new_ _ _ _ ?_; (simp; done)) | apply Own.drew | apply Own.drewN | apply Own.alloc | (refine Own.far' ?_ ?_ _; rotate_left; omega) | apply Own.put | (refine Own.below ?_ ?_; rotate_left; assumption))); all_goals rfl) hb5
  have ob_5 : Own w5 (w2.heap.size) 24 #[.int .i64 0, .int .i64 0, .int .i64 0, .slice A2 0 c2] := Own.below (by (repeat (first | assumption | (refine Own.new_ _ _ _ ?_; (simp; done)) | apply Own.drew | apply Own.drewN | apply Own.alloc | (refine Own.far' ?_ ?_ _; rotate_left; omega) | apply Own.put | (refine Own.below ?_ ?_; rotate_left; assumption))); all_goals rfl) hb5
  have oc_5 : Own w5 (w3.heap.size) 24 #[.int .i64 0, .int .i64 0, .int .i64 0, .slice A3 0 c3] := Own.below (by (repeat (first | assumption | (refine Own.new_ _ _ _ ?_; (simp; done)) | apply Own.drew | apply Own.drewN | apply Own.alloc | (refine Own.far' ?_ ?_ _; rotate_left; omega) | apply Own.put | (refine Own.below ?_ ?_; rotate_left; assumption))); all_goals rfl) hb5
  have oe_5 : Own w5 (w4.heap.size) 24 #[.int .i64 0, .int .i64 0, .int .i64 0, .slice A4 0 c4] := Own.below (by (repeat (first | assumption | (refine Own.new_ _ _ _ ?_; (simp; done)) | apply Own.drew | apply Own.drewN | apply Own.alloc | (refine Own.far' ?_ ?_ _; rotate_left; omega) | apply Own.put | (refine Own.below ?_ ?_; rotate_left; assumption))); all_goals rfl) hb5
  clear ca_4 fa_4 cb_4 fb_4 cc_4 fc_4
  have ca_5 := oa_5.cell
  have fa_5 := oa_5.free
  have la_5 := oa_5.lt
  have cb_5 := ob_5.cell
  have fb_5 := ob_5.free
  have lb_5 := ob_5.lt
  have cc_5 := oc_5.cell
  have fc_5 := oc_5.free
  have lc_5 := oc_5.lt
  have ce_5 := oe_5.cell
  have fe_5 := oe_5.free
  have le_5 := oe_5.lt
  go_wp2_with fail
  refine (awake14_any _).mono ?_
  rintro e w6 ⟨rfl, hb6⟩
  have hz6 := hb6.size; (try simp only [World.size_alloc, World.size_setCell, World.size_drew] at hz6)
  have oa_6 : Own w6 (w1.heap.size) 24 #[.int .i64 0, .int .i64 0, .int .i64 0, .slice A1 0 c1] := Own.below (by (repeat (first | assumption | (refine Own.new_ _ _ _ ?_; (simp; done)) | apply Own.drew | apply Own.drewN | apply Own.alloc | (refine Own.far' ?_ ?_ _; rotate_left; omega) | apply Own.put | (refine Own.below ?_ ?_; rotate_left; assumption))); all_goals rfl) hb6
  have ob_6 : Own w6 (w2.heap.size) 24 #[.int .i64 0, .int .i64 0, .int .i64 0, .slice A2 0 c2] := Own.below (by (repeat (first | assumption | (refine Own.new_ _ _ _ ?_; (simp; done)) | apply Own.drew | apply Own.drewN | apply Own.alloc | (refine Own.far' ?_ ?_ _; rotate_left; omega) | apply Own.put | (refine Own.below ?_ ?_; rotate_left; assumption))); all_goals rfl) hb6
  have oc_6 : Own w6 (w3.heap.size) 24 #[.int .i64 0, .int .i64 0, .int .i64 0, .slice A3 0 c3] := Own.below (by (repeat (first | assumption | (refine Own.new_ _ _ _ ?_; (simp; done)) | apply Own.drew | apply Own.drewN | apply Own.alloc | (refine Own.far' ?_ ?_ _; rotate_left; omega) | apply Own.put | (refine Own.below ?_ ?_; rotate_left; assumption))); all_goals rfl) hb6
  have oe_6 : Own w6 (w4.heap.size) 24 #[.int .i64 0, .int .i64 0, .int .i64 0, .slice A4 0 c4] := Own.below (by (repeat (first | assumption | (refine Own.new_ _ _ _ ?_; (simp; done)) | apply Own.drew | apply Own.drewN | apply Own.alloc | (refine Own.far' ?_ ?_ _; rotate_left; omega) | apply Own.put | (refine Own.below ?_ ?_; rotate_left; assumption))); all_goals rfl) hb6
  have of_6 : Own w6 (w5.heap.size) 24 #[.int .i64 0, .int .i64 0, .int .i64 0, .slice A5 0 c5] := Own.below (by (repeat (first | assumption | (refine Own.new_ _ _ _ ?_; (simp; done)) | apply Own.drew | apply Own.drewN | apply Own.alloc | (refine Own.far' ?_ ?_ _; rotate_left; omega) | apply Own.put | (refine Own.below ?_ ?_; rotate_left; assumption))); all_goals rfl) hb6
  have oz_6 : Own w6 (w5.heap.size + 1) 24 #[.int .i64 0, .int .i64 0, .int .i64 0, .slice none 0 0] := Own.below (by (repeat (first | assumption | (refine Own.new_ _ _ _ ?_; (simp; done)) | apply Own.drew | apply Own.drewN | apply Own.alloc | (refine Own.far' ?_ ?_ _; rotate_left; omega) | apply Own.put | (refine Own.below ?_ ?_; rotate_left; assumption))); all_goals rfl) hb6
  clear ca_5 fa_5 cb_5 fb_5 cc_5 fc_5 ce_5 fe_5
  have ca_6 := oa_6.cell
  have fa_6 := oa_6.free
  have la_6 := oa_6.lt
  have cb_6 := ob_6.cell
  have fb_6 := ob_6.free
  have lb_6 := ob_6.lt
  have cc_6 := oc_6.cell
  have fc_6 := oc_6.free
  have lc_6 := oc_6.lt
  have ce_6 := oe_6.cell
  have fe_6 := oe_6.free
  have le_6 := oe_6.lt
  have cf_6 := of_6.cell
  have ff_6 := of_6.free
  have lf_6 := of_6.lt
  have cz_6 := oz_6.cell
  have fz_6 := oz_6.free
  have lz_6 := oz_6.lt
  go_wp2_with fail
  refine (SamePlane_any _ _ _ _ _ _ _ _ _ _ _ _ [] [] _ (sl_zero _ _) (sl_zero _ _) (by simp)).mono ?_
  rintro e w7 ⟨rfl, hb7⟩
  have hz7 := hb7.size; (try simp only [World.size_alloc, World.size_setCell, World.size_drew] at hz7)
  have oa_7 : Own w7 (w1.heap.size) 24 #[.int .i64 0, .int .i64 0, .int .i64 0, .slice A1 0 c1] := Own.below (by (repeat (first | assumption | (refine Own.new_ _ _ _ ?_; (simp; done)) | apply Own.drew | apply Own.drewN | apply Own.alloc | (refine Own.far' ?_ ?_ _; rotate_left; omega) | apply Own.put | (refine Own.below ?_ ?_; rotate_left; assumption))); all_goals rfl) hb7
  have ob_7 : Own w7 (w2.heap.size) 24 #[.int .i64 0, .int .i64 0, .int .i64 0, .slice A2 0 c2] := Own.below (by (repeat (first | assumption | (refine Own.new_ _ _ _ ?_; (simp; done)) | apply Own.drew | apply Own.drewN | apply Own.alloc | (refine Own.far' ?_ ?_ _; rotate_left; omega) | apply Own.put | (refine Own.below ?_ ?_; rotate_left; assumption))); all_goals rfl) hb7
  have oc_7 : Own w7 (w3.heap.size) 24 #[.int .i64 0, .int .i64 0, .int .i64 0, .slice A3 0 c3] := Own.below (by (repeat (first | assumption | (refine Own.new_ _ _ _ ?_; (simp; done)) | apply Own.drew | apply Own.drewN | apply Own.alloc | (refine Own.far' ?_ ?_ _; rotate_left; omega) | apply Own.put | (refine Own.below ?_ ?_; rotate_left; assumption))); all_goals rfl) hb7
  have oe_7 : Own w7 (w4.heap.size) 24 #[.int .i64 0, .int .i64 0, .int .i64 0, .slice A4 0 c4] := Own.below (by (repeat (first | assumption | (refine Own.new_ _ _ _ ?_; (simp; done)) | apply Own.drew | apply Own.drewN | apply Own.alloc | (refine Own.far' ?_ ?_ _; rotate_left; omega) | apply Own.put | (refine Own.below ?_ ?_; rotate_left; assumption))); all_goals rfl) hb7
  have of_7 : Own w7 (w5.heap.size) 24 #[.int .i64 0, .int .i64 0, .int .i64 0, .slice A5 0 c5] := Own.below (by (repeat (first | assumption | (refine Own.new_ _ _ _ ?_; (simp; done)) | apply Own.drew | apply Own.drewN | apply Own.alloc | (refine Own.far' ?_ ?_ _; rotate_left; omega) | apply Own.put | (refine Own.below ?_ ?_; rotate_left; assumption))); all_goals rfl) hb7
  have oz_7 : Own w7 (w5.heap.size + 1) 24 #[.int .i64 0, .int .i64 0, .int .i64 0, .slice none 0 0] := Own.below (by (repeat (first | assumption | (refine Own.new_ _ _ _ ?_; (simp; done)) | apply Own.drew | apply Own.drewN | apply Own.alloc | (refine Own.far' ?_ ?_ _; rotate_left; omega) | apply Own.put | (refine Own.below ?_ ?_; rotate_left; assumption))); all_goals rfl) hb7
  clear ca_6 fa_6 cb_6 fb_6 cc_6 fc_6 ce_6 fe_6 cf_6 ff_6 cz_6 fz_6
  have ca_7 := oa_7.cell
  have fa_7 := oa_7.free
  have la_7 := oa_7.lt
  have cb_7 := ob_7.cell
  have fb_7 := ob_7.free
  have lb_7 := ob_7.lt
  have cc_7 := oc_7.cell
  have fc_7 := oc_7.free
  have lc_7 := oc_7.lt
  have ce_7 := oe_7.cell
  have fe_7 := oe_7.free
  have le_7 := oe_7.lt
  have cf_7 := of_7.cell
  have ff_7 := of_7.free
  have lf_7 := of_7.lt
  have cz_7 := oz_7.cell
  have fz_7 := oz_7.free
  have lz_7 := oz_7.lt
  rw [show same_ 0 0 0 0 0 0 [] [] = true from rfl]
  go_wp2_with fail
  refine (SamePlane_any _ _ _ _ _ _ _ _ _ _ _ _ [] [] _ (sl_zero _ _) (sl_zero _ _) (by simp)).mono ?_
  rintro e w8 ⟨rfl, hb8⟩
  have hz8 := hb8.size; (try simp only [World.size_alloc, World.size_setCell, World.size_drew] at hz8)
  have ob_8 : Own w8 (w2.heap.size) 24 #[.int .i64 0, .int .i64 0, .int .i64 0, .slice A2 0 c2] := Own.below (by (repeat (first | assumption | (refine Own.new_ _ _ _ ?_; (simp; done)) | apply Own.drew | apply Own.drewN | apply Own.alloc | (refine Own.far' ?_ ?_ _; rotate_left; omega) | apply Own.put | (refine Own.below ?_ ?_; rotate_left; assumption))); all_goals rfl) hb8
  have oc_8 : Own w8 (w3.heap.size) 24 #[.int .i64 0, .int .i64 0, .int .i64 0, .slice A3 0 c3] := Own.below (by (repeat (first | assumption | (refine Own.new_ _ _ _ ?_; (simp; done)) | apply Own.drew | apply Own.drewN | apply Own.alloc | (refine Own.far' ?_ ?_ _; rotate_left; omega) | apply Own.put | (refine Own.below ?_ ?_; rotate_left; assumption))); all_goals rfl) hb8
  have oe_8 : Own w8 (w4.heap.size) 24 #[.int .i64 0, .int .i64 0, .int .i64 0, .slice A4 0 c4] := Own.below (by (repeat (first | assumption | (refine Own.new_ _ _ _ ?_; (simp; done)) | apply Own.drew | apply Own.drewN | apply Own.alloc | (refine Own.far' ?_ ?_ _; rotate_left; omega) | apply Own.put | (refine Own.below ?_ ?_; rotate_left; assumption))); all_goals rfl) hb8
  have of_8 : Own w8 (w5.heap.size) 24 #[.int .i64 0, .int .i64 0, .int .i64 0, .slice A5 0 c5] := Own.below (by (repeat (first | assumption | (refine Own.new_ _ _ _ ?_; (simp; done)) | apply Own.drew | apply Own.drewN | apply Own.alloc | (refine Own.far' ?_ ?_ _; rotate_left; omega) | apply Own.put | (refine Own.below ?_ ?_; rotate_left; assumption))); all_goals rfl) hb8
  have oz_8 : Own w8 (w5.heap.size + 1) 24 #[.int .i64 0, .int .i64 0, .int .i64 0, .slice none 0 0] := Own.below (by (repeat (first | assumption | (refine Own.new_ _ _ _ ?_; (simp; done)) | apply Own.drew | apply Own.drewN | apply Own.alloc | (refine Own.far' ?_ ?_ _; rotate_left; omega) | apply Own.put | (refine Own.below ?_ ?_; rotate_left; assumption))); all_goals rfl) hb8
  clear ca_7 fa_7 cb_7 fb_7 cc_7 fc_7 ce_7 fe_7 cf_7 ff_7 cz_7 fz_7
  have cb_8 := ob_8.cell
  have fb_8 := ob_8.free
  have lb_8 := ob_8.lt
  have cc_8 := oc_8.cell
  have fc_8 := oc_8.free
  have lc_8 := oc_8.lt
  have ce_8 := oe_8.cell
  have fe_8 := oe_8.free
  have le_8 := oe_8.lt
  have cf_8 := of_8.cell
  have ff_8 := of_8.free
  have lf_8 := of_8.lt
  have cz_8 := oz_8.cell
  have fz_8 := oz_8.free
  have lz_8 := oz_8.lt
  rw [show same_ 0 0 0 0 0 0 [] [] = true from rfl]
  go_wp2_with fail
  refine (SamePlane_any _ _ _ _ _ _ _ _ _ _ _ _ [] [] _ (sl_zero _ _) (sl_zero _ _) (by simp)).mono ?_
  rintro e w9 ⟨rfl, hb9⟩
  have hz9 := hb9.size; (try simp only [World.size_alloc, World.size_setCell, World.size_drew] at hz9)
  have oc_9 : Own w9 (w3.heap.size) 24 #[.int .i64 0, .int .i64 0, .int .i64 0, .slice A3 0 c3] := Own.below (by (repeat (first | assumption | (refine Own.new_ _ _ _ ?_; (simp; done)) | apply Own.drew | apply Own.drewN | apply Own.alloc | (refine Own.far' ?_ ?_ _; rotate_left; omega) | apply Own.put | (refine Own.below ?_ ?_; rotate_left; assumption))); all_goals rfl) hb9
  have oe_9 : Own w9 (w4.heap.size) 24 #[.int .i64 0, .int .i64 0, .int .i64 0, .slice A4 0 c4] := Own.below (by (repeat (first | assumption | (refine Own.new_ _ _ _ ?_; (simp; done)) | apply Own.drew | apply Own.drewN | apply Own.alloc | (refine Own.far' ?_ ?_ _; rotate_left; omega) | apply Own.put | (refine Own.below ?_ ?_; rotate_left; assumption))); all_goals rfl) hb9
  have of_9 : Own w9 (w5.heap.size) 24 #[.int .i64 0, .int .i64 0, .int .i64 0, .slice A5 0 c5] := Own.below (by (repeat (first | assumption | (refine Own.new_ _ _ _ ?_; (simp; done)) | apply Own.drew | apply Own.drewN | apply Own.alloc | (refine Own.far' ?_ ?_ _; rotate_left; omega) | apply Own.put | (refine Own.below ?_ ?_; rotate_left; assumption))); all_goals rfl) hb9
  have oz_9 : Own w9 (w5.heap.size + 1) 24 #[.int .i64 0, .int .i64 0, .int .i64 0, .slice none 0 0] := Own.below (by (repeat (first | assumption | (refine Own.new_ _ _ _ ?_; (simp; done)) | apply Own.drew | apply Own.drewN | apply Own.alloc | (refine Own.far' ?_ ?_ _; rotate_left; omega) | apply Own.put | (refine Own.below ?_ ?_; rotate_left; assumption))); all_goals rfl) hb9
  clear cb_8 fb_8 cc_8 fc_8 ce_8 fe_8 cf_8 ff_8 cz_8 fz_8
  have cc_9 := oc_9.cell
  have fc_9 := oc_9.free
  have lc_9 := oc_9.lt
  have ce_9 := oe_9.cell
  have fe_9 := oe_9.free
  have le_9 := oe_9.lt
  have cf_9 := of_9.cell
  have ff_9 := of_9.free
  have lf_9 := of_9.lt
  have cz_9 := oz_9.cell
  have fz_9 := oz_9.free
  have lz_9 := oz_9.lt
  rw [show same_ 0 0 0 0 0 0 [] [] = true from rfl]
  go_wp2_with fail
  refine (SamePlane_any _ _ _ _ _ _ _ _ _ _ _ _ [] [] _ (sl_zero _ _) (sl_zero _ _) (by simp)).mono ?_
  rintro e w10 ⟨rfl, hb10⟩
  have hz10 := hb10.size; (try simp only [World.size_alloc, World.size_setCell, World.size_drew] at hz10)
  have oe_10 : Own w10 (w4.heap.size) 24 #[.int .i64 0, .int .i64 0, .int .i64 0, .slice A4 0 c4] := Own.below (by (repeat (first | assumption | (refine Own.new_ _ _ _ ?_; (simp; done)) | apply Own.drew | apply Own.drewN | apply Own.alloc | (refine Own.far' ?_ ?_ _; rotate_left; omega) | apply Own.put | (refine Own.below ?_ ?_; rotate_left; assumption))); all_goals rfl) hb10
  have of_10 : Own w10 (w5.heap.size) 24 #[.int .i64 0, .int .i64 0, .int .i64 0, .slice A5 0 c5] := Own.below (by (repeat (first | assumption | (refine Own.new_ _ _ _ ?_; (simp; done)) | apply Own.drew | apply Own.drewN | apply Own.alloc | (refine Own.far' ?_ ?_ _; rotate_left; omega) | apply Own.put | (refine Own.below ?_ ?_; rotate_left; assumption))); all_goals rfl) hb10
  have oz_10 : Own w10 (w5.heap.size + 1) 24 #[.int .i64 0, .int .i64 0, .int .i64 0, .slice none 0 0] := Own.below (by (repeat (first | assumption | (refine Own.new_ _ _ _ ?_; (simp; done)) | apply Own.drew | apply Own.drewN | apply Own.alloc | (refine Own.far' ?_ ?_ _; rotate_left; omega) | apply Own.put | (refine Own.below ?_ ?_; rotate_left; assumption))); all_goals rfl) hb10
  clear cc_9 fc_9 ce_9 fe_9 cf_9 ff_9 cz_9 fz_9
  have ce_10 := oe_10.cell
  have fe_10 := oe_10.free
  have le_10 := oe_10.lt
  have cf_10 := of_10.cell
  have ff_10 := of_10.free
  have lf_10 := of_10.lt
  have cz_10 := oz_10.cell
  have fz_10 := oz_10.free
  have lz_10 := oz_10.lt
  rw [show same_ 0 0 0 0 0 0 [] [] = true from rfl]
  go_wp2_with fail
  refine (SamePlane_any _ _ _ _ _ _ _ _ _ _ _ _ [] [] _ (sl_zero _ _) (sl_zero _ _) (by simp)).mono ?_
  rintro e w11 ⟨rfl, hb11⟩
  have hz11 := hb11.size; (try simp only [World.size_alloc, World.size_setCell, World.size_drew] at hz11)
  have of_11 : Own w11 (w5.heap.size) 24 #[.int .i64 0, .int .i64 0, .int .i64 0, .slice A5 0 c5] := Own.below (by (repeat (first | assumption | (refine Own.new_ _ _ _ ?_; (simp; done)) | apply Own.drew | apply Own.drewN | apply Own.alloc | (refine Own.far' ?_ ?_ _; rotate_left; omega) | apply Own.put | (refine Own.below ?_ ?_; rotate_left; assumption))); all_goals rfl) hb11
  have oz_11 : Own w11 (w5.heap.size + 1) 24 #[.int .i64 0, .int .i64 0, .int .i64 0, .slice none 0 0] := Own.below (by (repeat (first | assumption | (refine Own.new_ _ _ _ ?_; (simp; done)) | apply Own.drew | apply Own.drewN | apply Own.alloc | (refine Own.far' ?_ ?_ _; rotate_left; omega) | apply Own.put | (refine Own.below ?_ ?_; rotate_left; assumption))); all_goals rfl) hb11
  clear ce_10 fe_10 cf_10 ff_10 cz_10 fz_10
  have cf_11 := of_11.cell
  have ff_11 := of_11.free
  have lf_11 := of_11.lt
  have cz_11 := oz_11.cell
  have fz_11 := oz_11.free
  have lz_11 := oz_11.lt
  rw [show same_ 0 0 0 0 0 0 [] [] = true from rfl]
  go_wp2
  go_ret
  exact ⟨rfl, (by repeat (first | exact Below.refl _ _ | apply Below.drew | apply below_drewN | (refine Below.alloc ?_ ?_ _; rotate_left; (first | omega | (simp only [World.size_alloc, World.size_setCell, World.size_drew]; omega))) | (refine Below.setCell ?_ ?_ _; rotate_left; (first | omega | (simp only [World.size_alloc, World.size_setCell, World.size_drew]; omega))) | (refine below_step ?_ (by assumption) ?_; rotate_left; (first | omega | (simp only [World.size_alloc, World.size_setCell, World.size_drew]; omega))) | assumption))⟩

end Go.Proofs.Ytpdbiocegbimlaa
