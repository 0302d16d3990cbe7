/-
  compositorlaw15.ImageReplaceRejects answers true, whatever it is handed.
  For every input: no condition.
-/
import Derived.Test.YtfeknaojnominaaLw15ImageReplaceRejects
import Derived.Test.YtfeknaojnominaaData
import Derived.Test.YtfeknaojnominaaClosed
namespace Go.Proofs.Ytfeknaojnominaa.imageReplaceRejects
open Go.ChangeShapes Go.WideShapes Go.ChangeAt Go.RowKit
set_option linter.unusedVariables false
set_option linter.unusedSimpArgs false

theorem lv_26 : lv Try.prog 26 = some [3, 3, 3, 3, 22] := by kernel_rfl
theorem lv_81 : lv Try.prog 81 = some [3, 3, 3, 3, 3] := by kernel_rfl
theorem lv_60 : lv Try.prog 60 = some [3, 3, 3, 3] := by kernel_rfl
theorem lv_24 : lv Try.prog 24 = some [3, 22] := by kernel_rfl

set_option maxRecDepth 100000 in
theorem told (W : World) (args : Array Value) (ha : Args Try.prog W Try.f8.params.toList args.toList) :
    Calls Try.prog 8 args W fun e W' => e = .returned (.bool true) ∧ Below W.heap.size W W' := by
  rw [Try.params8] at ha
  refine told_of (by kernel_rfl) (fun rs hp hw => ?_) W args ha
  · clear ha
    obtain ⟨v0, vs0, rfl, h0, hp⟩ := hp.cons
    obtain ⟨v1, vs1, rfl, h1, hp⟩ := hp.cons
    obtain ⟨v2, vs2, rfl, h2, hp⟩ := hp.cons
    obtain ⟨v3, vs3, rfl, h3, hp⟩ := hp.cons
    obtain ⟨v4, vs4, rfl, h4, hp⟩ := hp.cons
    obtain rfl := hp.nil
    clear hw
    obtain ⟨ds0, rfl, hl0, hd0⟩ := h0.many (by kernel_rfl) lv_26
    have g0_0 : LeavesD Try.prog 6 _ ds0 := ⟨hl0, hd0⟩
    obtain ⟨d0_0, ds0_0, rfl, e0_0, g0_1⟩ := g0_0.cons
    obtain ⟨pw, rfl⟩ := e0_0.int Try.underlying3
    obtain ⟨d0_1, ds0_1, rfl, e0_1, g0_2⟩ := g0_1.cons
    obtain ⟨ph, rfl⟩ := e0_1.int Try.underlying3
    obtain ⟨d0_2, ds0_2, rfl, e0_2, g0_3⟩ := g0_2.cons
    obtain ⟨so_, rfl⟩ := e0_2.int Try.underlying3
    obtain ⟨d0_3, ds0_3, rfl, e0_3, g0_4⟩ := g0_3.cons
    obtain ⟨mood, rfl⟩ := e0_3.int Try.underlying3
    obtain ⟨d0_4, ds0_4, rfl, e0_4, g0_5⟩ := g0_4.cons
    obtain ⟨L, xs_, rfl, by_xs_, len_xs_, at_xs_⟩ := e0_4.slice Try.underlying22 lv_81
    obtain rfl := g0_5.nil
    obtain ⟨ds1, rfl, hl1, hd1⟩ := h1.many (by kernel_rfl) lv_60
    have g1_0 : LeavesD Try.prog 6 _ ds1 := ⟨hl1, hd1⟩
    obtain ⟨d1_0, ds1_0, rfl, e1_0, g1_1⟩ := g1_0.cons
    obtain ⟨n0, rfl⟩ := e1_0.int Try.underlying3
    obtain ⟨d1_1, ds1_1, rfl, e1_1, g1_2⟩ := g1_1.cons
    obtain ⟨n1, rfl⟩ := e1_1.int Try.underlying3
    obtain ⟨d1_2, ds1_2, rfl, e1_2, g1_3⟩ := g1_2.cons
    obtain ⟨n2, rfl⟩ := e1_2.int Try.underlying3
    obtain ⟨d1_3, ds1_3, rfl, e1_3, g1_4⟩ := g1_3.cons
    obtain ⟨n3, rfl⟩ := e1_3.int Try.underlying3
    obtain rfl := g1_4.nil
    obtain ⟨ds2, rfl, hl2, hd2⟩ := h2.many (by kernel_rfl) lv_24
    have g2_0 : LeavesD Try.prog 6 _ ds2 := ⟨hl2, hd2⟩
    obtain ⟨d2_0, ds2_0, rfl, e2_0, g2_1⟩ := g2_0.cons
    obtain ⟨mood2, rfl⟩ := e2_0.int Try.underlying3
    obtain ⟨d2_1, ds2_1, rfl, e2_1, g2_2⟩ := g2_1.cons
    obtain ⟨L2, ys, rfl, by_ys, len_ys, at_ys⟩ := e2_1.slice Try.underlying22 lv_81
    obtain rfl := g2_2.nil
    obtain ⟨by_, rfl⟩ := h3.one Try.underlying3
    obtain ⟨mx, rfl⟩ := h4.one Try.underlying3
    exact L15_ImageReplaceRejects_ans pw ph so_ mood L xs_ n0 n1 n2 n3 mood2 L2 ys by_ mx (is5_of len_xs_ fun j d hj => by obtain ⟨t', a, q, b⟩ := at_xs_ j d hj; exact intLeaf5 Try.underlying3 a b) (is5_of len_ys fun j d hj => by obtain ⟨t', a, q, b⟩ := at_ys j d hj; exact intLeaf5 Try.underlying3 a b)

set_option maxRecDepth 100000 in
theorem lifted (os : Os) (started : os.Started) (H : Type) (enc : TypeId × Value → H) :
    ReturnsInHanded {} Try.checked os 8 .any (Rows.imageReplaceRejectsSpec.pre6 enc Try.prog Try.f8 Rows.imageReplaceRejectsRow.domain false) (Rows.imageReplaceRejectsSpec.post enc Try.prog Try.f8 false true false false) :=
  law_lift (C := Try.checked) (tb := 4) closed.own started (by kernel_rfl) Try.func8
    (ChangeSpec.witness6 (enc := enc) (C := Try.checked) false ⟨#[], #[.agg #[.int .i64 0, .int .i64 0, .int .i64 0, .int .i64 0, .slice none 0 0], .agg #[.int .i64 0, .int .i64 0, .int .i64 0, .int .i64 0], .agg #[.int .i64 0, .slice none 0 0], .int .i64 0, .int .i64 0], []⟩ 8 (by kernel_rfl) (by kernel_rfl) (by kernel_rfl) (by kernel_rfl))
    (fun ds h => by
      rw [Try.params8] at h
      match ds, h with
      | [d0, d1, d2, d3, d4], _ => rfl)
    rfl (by kernel_rfl) Try.underlying4 closed.laidOut
    (fun t ht => by
      have hall : (Try.f8.params.toList.all fun t => Try.prog.readableRec t && decide (t < Try.prog.types.size)) = true := by kernel_rfl
      have h2 := List.all_eq_true.1 hall t ht
      rw [Bool.and_eq_true] at h2
      exact ⟨h2.1, of_decide_eq_true h2.2⟩)
    told

theorem joined : joinedFacts Try.prog 8 Try.f8 Rows.imageReplaceRejectsSpec Rows.imageReplaceRejectsRow = true := by
  unfold joinedFacts
  simp only [Bool.and_eq_true]
  and_intros
  all_goals first
    | (with_reducible exact closed.laidOut)
    | (with_reducible exact closed.mapsRow)
    | (with_reducible exact closed.noStops)
    | (with_reducible exact closed.noKnobs)
    | (with_reducible exact closed.heard)
    | (with_reducible exact closed.enters)
    | (rw [closed.liftsNot]; kernel_rfl)
    | (rw [closed.made]; kernel_rfl)
    | (rw [closed.plain]; kernel_rfl)
    | kernel_rfl

theorem over : Rows.imageReplaceRejectsRow.holds Try.pinned (OpenSpec.ofChange Rows.imageReplaceRejectsSpec) :=
  OpenClaim.holds_of_wide 8 Try.f8 rfl rfl rfl rfl rfl rfl rfl ⟨rfl, rfl, rfl, rfl, rfl⟩ rfl rfl rfl rfl rfl (by kernel_rfl) Try.func8 joined
    (of_decide_eq_true (by kernel_rfl)) (by unfold Func.isWrapper; first | (rw [if_pos (by decide +kernel)]; kernel_rfl) | (rw [if_neg (by decide +kernel)]; exact ⟨rfl, rfl⟩))
    (fun os started H enc _ => lifted os started H enc)

/-- the statement -/
theorem proved : Rows.ImageReplaceRejectsSaid := over
#print axioms proved
end Go.Proofs.Ytfeknaojnominaa.imageReplaceRejects
