/-
  compositorlaw21.TreeRoundTrip answers true, whatever it is handed.
  For every input: no condition.
-/
import Derived.Test.YtaaealkgbklmeaaTreeRoundTripZ4
import Derived.Test.YtaaealkgbklmeaaTreeRoundTripZ3
namespace Go.Proofs.Ytaaealkgbklmeaa.treeRoundTrip
open Go.ChangeShapes Go.WideShapes Go.ChangeAt Go.RowKit
set_option linter.unusedVariables false
set_option linter.unusedSimpArgs false

theorem lv_3 : lv Try.prog 3 = some [3] := by kernel_rfl

set_option maxRecDepth 100000 in
theorem told (W : World) (args : Array Value) (ha : Args Try.prog W Try.f4.params.toList args.toList) :
    Calls Try.prog 4 args W fun e W' => e = .returned (.bool true) ∧ Below W.heap.size W W' := by
  rw [Try.params4] at ha
  refine told_of (by kernel_rfl) (fun rs hp hw => ?_) W args (fun p hp => by simp [globTab] at hp) ha
  · clear ha
    obtain ⟨v0, vs0, rfl, h0, hp⟩ := hp.cons
    obtain rfl := hp.nil
    clear hw
    obtain ⟨pn, pxs, rfl, by_pxs, len_pxs, at_pxs⟩ := h0.slice Try.underlying22 lv_3
    exact L21_TreeRoundTrip_ans pn pxs (isI_of (by simpa using len_pxs) fun j d hj => by obtain ⟨t', a, q, b⟩ := at_pxs j d hj; exact intLeaf1 Try.underlying3 a b)

set_option maxRecDepth 100000 in
theorem lifted (os : Os) (started : os.Started) (H : Type) (enc : TypeId × Value → H) :
    ReturnsInHanded {} Try.checked os 4 .any (Rows.treeRoundTripSpec.pre6 enc Try.prog Try.f4 Rows.treeRoundTripRow.domain false) (Rows.treeRoundTripSpec.post enc Try.prog Try.f4 false true false false) :=
  law_lift (C := Try.checked) (tb := 4) closed.own started (by kernel_rfl) Try.func4
    (ChangeSpec.witness6 (enc := enc) (C := Try.checked) false ⟨#[], #[.slice none 0 0], []⟩ 8 (by kernel_rfl) (by kernel_rfl) (by kernel_rfl) (by kernel_rfl))
    (fun ds h => by
      rw [Try.params4] at h
      match ds, h with
      | [d0], _ => rfl)
    rfl (by kernel_rfl) Try.underlying4 closed.laidOut
    (fun t ht => by
      have hall : (Try.f4.params.toList.all fun t => Try.prog.readableRec t && decide (t < Try.prog.types.size)) = true := by kernel_rfl
      have h2 := List.all_eq_true.1 hall t ht
      rw [Bool.and_eq_true] at h2
      exact ⟨h2.1, of_decide_eq_true h2.2⟩)
    told

theorem joined : joinedFacts Try.prog 4 Try.f4 Rows.treeRoundTripSpec Rows.treeRoundTripRow = true := by
  unfold joinedFacts
  simp only [Bool.and_eq_true]
  and_intros
  all_goals first
    | (with_reducible exact closed.laidOut)
    | (with_reducible exact closed.mapsRow)
    | (with_reducible exact closed.noStops)
    | (with_reducible exact closed.noKnobs)
    | (with_reducible exact closed.heard)
    | (with_reducible exact closed.enters)
    | (rw [closed.liftsNot]; kernel_rfl)
    | (rw [closed.made]; kernel_rfl)
    | (rw [closed.plain]; kernel_rfl)
    | kernel_rfl

theorem over : Rows.treeRoundTripRow.holds Try.pinned (OpenSpec.ofChange Rows.treeRoundTripSpec) :=
  OpenClaim.holds_of_wide 4 Try.f4 rfl rfl rfl rfl rfl rfl rfl ⟨rfl, rfl, rfl, rfl, rfl⟩ rfl rfl rfl rfl rfl (by kernel_rfl) Try.func4 joined
    (of_decide_eq_true (by kernel_rfl)) (by unfold Func.isWrapper; first | (rw [if_pos (by decide +kernel)]; kernel_rfl) | (rw [if_neg (by decide +kernel)]; exact ⟨rfl, rfl⟩))
    (fun os started H enc _ => lifted os started H enc)

/-- the statement -/
theorem proved : Rows.TreeRoundTripSaid := over
#print axioms proved
end Go.Proofs.Ytaaealkgbklmeaa.treeRoundTrip
