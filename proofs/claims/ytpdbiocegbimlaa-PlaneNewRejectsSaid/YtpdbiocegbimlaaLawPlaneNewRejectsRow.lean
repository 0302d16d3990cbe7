/-
  compositorlaw14.PlaneNewRejects returns true: sizes out of range, and planes with too many samples, give no plane.
  For every input: no condition.
-/
import Derived.Test.YtpdbiocegbimlaaLawPlaneNew
import Derived.Test.YtpdbiocegbimlaaData
import Derived.Test.YtpdbiocegbimlaaClosed
namespace Go.Proofs.Ytpdbiocegbimlaa.planeNewRejects
open Go.ChangeShapes Go.WideShapes Go.ChangeAt Go.RowKit
set_option linter.unusedVariables false
set_option linter.unusedSimpArgs false



set_option maxRecDepth 100000 in
theorem told (W : World) (args : Array Value) (ha : Args Try.prog W Try.f4.params.toList args.toList) :
    Calls Try.prog 4 args W fun e W' => e = .returned (.bool true) ∧ Below W.heap.size W W' := by
  rw [Try.params4] at ha
  obtain ⟨v0, vs0, hv, h0, r0⟩ := Args.cons ha
  obtain rfl := Args.nil r0
  obtain rfl : args = #[v0] := by cases args; simp_all
  clear hv ha 
  obtain ⟨x, rfl, wf_x⟩ := h0.int Try.underlying3
  obtain ⟨lo_x, hi_x⟩ := bounds_i64 wf_x
  exact PlaneNewRejects_walk x W

set_option maxRecDepth 100000 in
theorem lifted (os : Os) (started : os.Started) (H : Type) (enc : TypeId × Value → H) :
    ReturnsInHanded {} Try.checked os 4 .any (Rows.planeNewRejectsSpec.pre6 enc Try.prog Try.f4 Rows.planeNewRejectsRow.domain false) (Rows.planeNewRejectsSpec.post enc Try.prog Try.f4 false true false false) :=
  law_lift (C := Try.checked) (tb := 4) closed.own started (by kernel_rfl) Try.func4
    (ChangeSpec.witness6 (enc := enc) (C := Try.checked) false ⟨#[], #[.int .i64 0], []⟩ 8 (by kernel_rfl) (by kernel_rfl) (by kernel_rfl) (by kernel_rfl))
    (fun ds h => by
      rw [Try.params4] at h
      match ds, h with
      | [d0], _ => rfl)
    rfl (by kernel_rfl) Try.underlying4 closed.laidOut
    (fun t ht => by
      have hall : (Try.f4.params.toList.all fun t => Try.prog.readableRec t && decide (t < Try.prog.types.size)) = true := by kernel_rfl
      have h2 := List.all_eq_true.1 hall t ht
      rw [Bool.and_eq_true] at h2
      exact ⟨h2.1, of_decide_eq_true h2.2⟩)
    told

theorem joined : joinedFacts Try.prog 4 Try.f4 Rows.planeNewRejectsSpec Rows.planeNewRejectsRow = true := by
  unfold joinedFacts
  simp only [Bool.and_eq_true]
  and_intros
  all_goals first
    | (with_reducible exact closed.laidOut)
    | (with_reducible exact closed.mapsRow)
    | (with_reducible exact closed.noStops)
    | (with_reducible exact closed.noKnobs)
    | (with_reducible exact closed.heard)
    | (with_reducible exact closed.enters)
    | (rw [closed.liftsNot]; kernel_rfl)
    | (rw [closed.made]; kernel_rfl)
    | (rw [closed.plain]; kernel_rfl)
    | kernel_rfl

theorem over : Rows.planeNewRejectsRow.holds Try.pinned (OpenSpec.ofChange Rows.planeNewRejectsSpec) :=
  OpenClaim.holds_of_wide 4 Try.f4 rfl rfl rfl rfl rfl rfl rfl ⟨rfl, rfl, rfl, rfl, rfl⟩ rfl rfl rfl rfl rfl (by kernel_rfl) Try.func4 joined
    (of_decide_eq_true (by kernel_rfl)) (by unfold Func.isWrapper; first | (rw [if_pos (by decide +kernel)]; kernel_rfl) | (rw [if_neg (by decide +kernel)]; exact ⟨rfl, rfl⟩))
    (fun os started H enc _ => lifted os started H enc)

/-- the statement -/
theorem proved : Rows.PlaneNewRejectsSaid := over
#print axioms proved
end Go.Proofs.Ytpdbiocegbimlaa.planeNewRejects
