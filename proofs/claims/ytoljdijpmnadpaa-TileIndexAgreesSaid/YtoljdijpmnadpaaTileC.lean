/-
  Walks: the sanity check of compositorlaw17.
-/
import Derived.Test.YtoljdijpmnadpaaTileB
import Derived.Test.YtoljdijpmnadpaaGen
namespace Go.Proofs.Ytoljdijpmnadpaa
open Go.RowKit
set_option linter.unusedVariables false
set_option linter.unusedSimpArgs false

set_option maxHeartbeats 1000000 in
theorem awake17_any (w : World) : Calls Try.prog 14 #[] w fun e w' => e = .returned (.bool true) ∧ Below w.heap.size w w' := by
  go_enter Try.func14, Try.ntmps14
  go_wp2_with fail
  refine (Count_yes 0 0 5 4 2 3 _ (n := 3) (m := 2) (by decide) (by decide) (by decide)).mono ?_
  rintro e w1 ⟨rfl, hb1⟩
  have hz1 := hb1.size
  go_wp2_with fail
  refine (TRect_any 0 0 5 4 2 3 5 _ (by omega) (by omega)).mono ?_
  rintro e w2 ⟨rfl, hb2⟩
  have hz2 := hb2.size
  have e1 : tRect ⟨0, 0, 5, 4⟩ 2 3 5 = ⟨4, 3, 5, 4⟩ := rfl
  have e2 : tHas ⟨0, 0, 5, 4⟩ 2 3 5 = true := by decide
  rw [e1, e2]
  go_wp2
  go_ret
  exact ⟨rfl, (by repeat (first | exact Below.refl _ _ | apply Below.drew | apply below_drewN | (refine Below.alloc ?_ ?_ _; rotate_left; (first | omega | (simp only [World.size_alloc, World.size_setCell, World.size_drew]; omega))) | (refine Below.setCell ?_ ?_ _; rotate_left; (first | omega | (simp only [World.size_alloc, World.size_setCell, World.size_drew]; omega))) | (refine below_step ?_ (by assumption) ?_; rotate_left; (first | omega | (simp only [World.size_alloc, World.size_setCell, World.size_drew]; omega))) | assumption))⟩

end Go.Proofs.Ytoljdijpmnadpaa
