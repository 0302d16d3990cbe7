/-
  Part 6 of what ValidateAcceptsScenes rests on.
-/
import Derived.Test.YthlmmlcdoiahkaaDoorValidateAcceptsScenesZ5
import Derived.Test.YthlmmlcdoiahkaaDoorRows
import Derived.KernelRfl
/-
  The table of package variables is what the rows list; the door's own run meets it.
-/
namespace Go.Proofs.YthlmmlcdoiahkaaDoor
open Go.RowKit
set_option linter.unusedVariables false
set_option linter.unusedSimpArgs false

abbrev laidL : List (String × DataW Unit) := [("compositor/operator.rules", Rows.laid_compositor_operator_rules), ("compositor/blend.names", Rows.laid_compositor_blend_names)]
set_option maxRecDepth 100000 in
theorem tab_ok : ∀ p ∈ globTab, tabOK Tryd.prog laidL p := by
  intro p hp
  simp only [globTab, List.mem_cons, List.not_mem_nil, or_false] at hp
  rcases hp with rfl | rfl
  · exact ⟨("compositor/blend.names", Rows.laid_compositor_blend_names), 108, (List.mem_cons_of_mem _ List.mem_cons_self), by kernel_rfl, by kernel_rfl, by kernel_rfl⟩
  · exact ⟨("compositor/operator.rules", Rows.laid_compositor_operator_rules), 114, List.mem_cons_self, by kernel_rfl, by kernel_rfl, by kernel_rfl⟩
theorem laid_plain : (laidL.all fun x => x.2.handleName?.isNone) = true := by kernel_rfl
set_option maxRecDepth 100000 in
theorem door_met (os : Os) (args : Array Value) : laidMetH Tryd.prog laidL ((World.doorLaid Tryd.prog 400 os).forCall (fun _ _ => 0) ⟨#[], args, []⟩).memory :=
  laidMetH_of_parts3 (fuel := 8) (laidMet_of_run' 8 (by kernel_rfl) (by kernel_rfl)) (by kernel_rfl) (by kernel_rfl)
end Go.Proofs.YthlmmlcdoiahkaaDoor

