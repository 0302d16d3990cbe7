/-
  Walks: the sanity check of compositorlaw14; then PlaneNewRejects.
-/
import Derived.Test.YtpdbiocegbimlaaPlE
namespace Go.Proofs.Ytpdbiocegbimlaa
open Go.RowKit
set_option linter.unusedVariables false
set_option linter.unusedSimpArgs false

set_option maxHeartbeats 2000000 in
theorem awake14_any (w : World) : Calls Try.prog 9 #[] w fun e w' => e = .returned (.bool true) ∧ Below w.heap.size w w' := by
  go_enter Try.func9, Try.ntmps9
  go_wp2_with fail
  refine (New_yes 2 3 5 _ (by decide)).mono ?_
  rintro e w1 ⟨A1, c1, rfl, hs1, hb1, hc1, hd1⟩
  rw [show (List.replicate (plLen 2 3 5).toNat (0 : Int)).length = 12 from rfl] at *
  have hz1 := hb1.size; (try simp only [World.size_alloc, World.size_setCell, World.size_drew] at hz1)
  obtain ⟨_, g, off, rfl, hg, hcells⟩ := (hs1.open_).resolve_left (fun h => absurd h.1 (by omega))
  go_wp2_with fail
  have hs1' := hs1.alloc (.cells #[.int .i64 2, .int .i64 3, .int .i64 5, .slice (some ⟨g, off, none⟩) 12 c1] 24)
  refine (Compact_yes 2 3 5 g off 12 c1 2 3 5 (List.replicate (plLen 2 3 5).toNat (0 : Int)) _ (by decide) rfl rfl rfl hs1' hc1 hd1).mono ?_
  rintro e w2 ⟨A2, c2, rfl, hs2, hb2, hc2, hd2⟩
  rw [show (rowsL (List.replicate (plLen 2 3 5).toNat (0 : Int)) 5 2 3).length = 6 from rfl] at *
  have hz2 := hb2.size; (try simp only [World.size_alloc, World.size_setCell, World.size_drew] at hz2)
  have op_2 : Own w2 (w1.heap.size) 24 #[.int .i64 2, .int .i64 3, .int .i64 5, .slice (some ⟨g, off, none⟩) 12 c1] := Own.below (by (repeat (first | assumption | (refine Own.new_ _ _ _ ?_; (simp; done)) | apply Own.drew | apply Own.drewN | apply Own.alloc | (refine Own.far' ?_ ?_ _; rotate_left; omega) | apply Own.put | (refine Own.below ?_ ?_; rotate_left; assumption))); all_goals rfl) hb2
  have cp_2 := op_2.cell
  have fp_2 := op_2.free
  have lp_2 := op_2.lt
  go_wp2_with fail
  refine (ValidPl_any 2 3 5 _ 12 _ _).mono ?_
  rintro e w3 ⟨rfl, hb3⟩
  rw [show plValid 2 3 5 12 = true from rfl]
  have hz3 := hb3.size; (try simp only [World.size_alloc, World.size_setCell, World.size_drew] at hz3)
  have op_3 : Own w3 (w1.heap.size) 24 #[.int .i64 2, .int .i64 3, .int .i64 5, .slice (some ⟨g, off, none⟩) 12 c1] := Own.below (by (repeat (first | assumption | (refine Own.new_ _ _ _ ?_; (simp; done)) | apply Own.drew | apply Own.drewN | apply Own.alloc | (refine Own.far' ?_ ?_ _; rotate_left; omega) | apply Own.put | (refine Own.below ?_ ?_; rotate_left; assumption))); all_goals rfl) hb3
  have oq_3 : Own w3 (w2.heap.size) 24 #[.int .i64 2, .int .i64 3, .int .i64 2, .slice A2 6 c2] := Own.below (by (repeat (first | assumption | (refine Own.new_ _ _ _ ?_; (simp; done)) | apply Own.drew | apply Own.drewN | apply Own.alloc | (refine Own.far' ?_ ?_ _; rotate_left; omega) | apply Own.put | (refine Own.below ?_ ?_; rotate_left; assumption))); all_goals rfl) hb3
  clear cp_2 fp_2
  have cp_3 := op_3.cell
  have fp_3 := op_3.free
  have lp_3 := op_3.lt
  have cq_3 := oq_3.cell
  have fq_3 := oq_3.free
  have lq_3 := oq_3.lt
  go_wp2
  go_ret
  exact ⟨rfl, (by repeat (first | exact Below.refl _ _ | apply Below.drew | apply below_drewN | (refine Below.alloc ?_ ?_ _; rotate_left; (first | omega | (simp only [World.size_alloc, World.size_setCell, World.size_drew]; omega))) | (refine Below.setCell ?_ ?_ _; rotate_left; (first | omega | (simp only [World.size_alloc, World.size_setCell, World.size_drew]; omega))) | (refine below_step ?_ (by assumption) ?_; rotate_left; (first | omega | (simp only [World.size_alloc, World.size_setCell, World.size_drew]; omega))) | assumption))⟩

end Go.Proofs.Ytpdbiocegbimlaa
