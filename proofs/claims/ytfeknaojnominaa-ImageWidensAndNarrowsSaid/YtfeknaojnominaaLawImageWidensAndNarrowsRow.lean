/-
  compositorlaw15.ImageWidensAndNarrows answers true, whatever it is handed.
  For every input: no condition.
-/
import Derived.Test.YtfeknaojnominaaLw15ImageWidensAndNarrows
import Derived.Test.YtfeknaojnominaaData
import Derived.Test.YtfeknaojnominaaClosed
namespace Go.Proofs.Ytfeknaojnominaa.imageWidensAndNarrows
open Go.ChangeShapes Go.WideShapes Go.ChangeAt Go.RowKit
set_option linter.unusedVariables false
set_option linter.unusedSimpArgs false

theorem lv_26 : lv Try.prog 26 = some [3, 3, 3, 3, 22] := by kernel_rfl
theorem lv_81 : lv Try.prog 81 = some [3, 3, 3, 3, 3] := by kernel_rfl

set_option maxRecDepth 100000 in
theorem told (W : World) (args : Array Value) (ha : Args Try.prog W Try.f10.params.toList args.toList) :
    Calls Try.prog 10 args W fun e W' => e = .returned (.bool true) ∧ Below W.heap.size W W' := by
  rw [Try.params10] at ha
  refine told_of (by kernel_rfl) (fun rs hp hw => ?_) W args ha
  · clear ha
    obtain ⟨v0, vs0, rfl, h0, hp⟩ := hp.cons
    obtain ⟨v1, vs1, rfl, h1, hp⟩ := hp.cons
    obtain rfl := hp.nil
    clear hw
    obtain ⟨ds0, rfl, hl0, hd0⟩ := h0.many (by kernel_rfl) lv_26
    have g0_0 : LeavesD Try.prog 6 _ ds0 := ⟨hl0, hd0⟩
    obtain ⟨d0_0, ds0_0, rfl, e0_0, g0_1⟩ := g0_0.cons
    obtain ⟨pw, rfl⟩ := e0_0.int Try.underlying3
    obtain ⟨d0_1, ds0_1, rfl, e0_1, g0_2⟩ := g0_1.cons
    obtain ⟨ph, rfl⟩ := e0_1.int Try.underlying3
    obtain ⟨d0_2, ds0_2, rfl, e0_2, g0_3⟩ := g0_2.cons
    obtain ⟨so_, rfl⟩ := e0_2.int Try.underlying3
    obtain ⟨d0_3, ds0_3, rfl, e0_3, g0_4⟩ := g0_3.cons
    obtain ⟨mood, rfl⟩ := e0_3.int Try.underlying3
    obtain ⟨d0_4, ds0_4, rfl, e0_4, g0_5⟩ := g0_4.cons
    obtain ⟨L, xs_, rfl, by_xs_, len_xs_, at_xs_⟩ := e0_4.slice Try.underlying22 lv_81
    obtain rfl := g0_5.nil
    obtain ⟨more, rfl⟩ := h1.one Try.underlying3
    exact L15_ImageWidensAndNarrows_ans pw ph so_ mood L xs_ more (is5_of len_xs_ fun j d hj => by obtain ⟨t', a, q, b⟩ := at_xs_ j d hj; exact intLeaf5 Try.underlying3 a b)

set_option maxRecDepth 100000 in
theorem lifted (os : Os) (started : os.Started) (H : Type) (enc : TypeId × Value → H) :
    ReturnsInHanded {} Try.checked os 10 .any (Rows.imageWidensAndNarrowsSpec.pre6 enc Try.prog Try.f10 Rows.imageWidensAndNarrowsRow.domain false) (Rows.imageWidensAndNarrowsSpec.post enc Try.prog Try.f10 false true false false) :=
  law_lift (C := Try.checked) (tb := 4) closed.own started (by kernel_rfl) Try.func10
    (ChangeSpec.witness6 (enc := enc) (C := Try.checked) false ⟨#[], #[.agg #[.int .i64 0, .int .i64 0, .int .i64 0, .int .i64 0, .slice none 0 0], .int .i64 0], []⟩ 8 (by kernel_rfl) (by kernel_rfl) (by kernel_rfl) (by kernel_rfl))
    (fun ds h => by
      rw [Try.params10] at h
      match ds, h with
      | [d0, d1], _ => rfl)
    rfl (by kernel_rfl) Try.underlying4 closed.laidOut
    (fun t ht => by
      have hall : (Try.f10.params.toList.all fun t => Try.prog.readableRec t && decide (t < Try.prog.types.size)) = true := by kernel_rfl
      have h2 := List.all_eq_true.1 hall t ht
      rw [Bool.and_eq_true] at h2
      exact ⟨h2.1, of_decide_eq_true h2.2⟩)
    told

theorem joined : joinedFacts Try.prog 10 Try.f10 Rows.imageWidensAndNarrowsSpec Rows.imageWidensAndNarrowsRow = true := by
  unfold joinedFacts
  simp only [Bool.and_eq_true]
  and_intros
  all_goals first
    | (with_reducible exact closed.laidOut)
    | (with_reducible exact closed.mapsRow)
    | (with_reducible exact closed.noStops)
    | (with_reducible exact closed.noKnobs)
    | (with_reducible exact closed.heard)
    | (with_reducible exact closed.enters)
    | (rw [closed.liftsNot]; kernel_rfl)
    | (rw [closed.made]; kernel_rfl)
    | (rw [closed.plain]; kernel_rfl)
    | kernel_rfl

theorem over : Rows.imageWidensAndNarrowsRow.holds Try.pinned (OpenSpec.ofChange Rows.imageWidensAndNarrowsSpec) :=
  OpenClaim.holds_of_wide 10 Try.f10 rfl rfl rfl rfl rfl rfl rfl ⟨rfl, rfl, rfl, rfl, rfl⟩ rfl rfl rfl rfl rfl (by kernel_rfl) Try.func10 joined
    (of_decide_eq_true (by kernel_rfl)) (by unfold Func.isWrapper; first | (rw [if_pos (by decide +kernel)]; kernel_rfl) | (rw [if_neg (by decide +kernel)]; exact ⟨rfl, rfl⟩))
    (fun os started H enc _ => lifted os started H enc)

/-- the statement -/
theorem proved : Rows.ImageWidensAndNarrowsSaid := over
#print axioms proved
end Go.Proofs.Ytfeknaojnominaa.imageWidensAndNarrows
