/-
  compositorlaw15.ImageValidAgrees answers true, whatever it is handed.
  For every input: no condition.
-/
import Derived.Test.YtfeknaojnominaaLw15ImageValidAgrees
import Derived.Test.YtfeknaojnominaaData
import Derived.Test.YtfeknaojnominaaClosed
namespace Go.Proofs.Ytfeknaojnominaa.imageValidAgrees
open Go.ChangeShapes Go.WideShapes Go.ChangeAt Go.RowKit
set_option linter.unusedVariables false
set_option linter.unusedSimpArgs false

theorem lv_26 : lv Try.prog 26 = some [3, 3, 3, 3, 22] := by kernel_rfl
theorem lv_81 : lv Try.prog 81 = some [3, 3, 3, 3, 3] := by kernel_rfl
theorem lv_36 : lv Try.prog 36 = some [3, 3, 4, 27, 27, 27, 27, 27, 3, 3, 3, 31, 3, 3, 3, 31, 3, 3, 3, 31, 3, 3, 3, 31, 3, 3, 3, 31] := by kernel_rfl
theorem lv_27 : lv Try.prog 27 = some [27] := by kernel_rfl

set_option maxRecDepth 100000 in
theorem told (W : World) (args : Array Value) (ha : Args Try.prog W Try.f3.params.toList args.toList) :
    Calls Try.prog 3 args W fun e W' => e = .returned (.bool true) ∧ Below W.heap.size W W' := by
  rw [Try.params3] at ha
  refine told_of (by kernel_rfl) (fun rs hp hw => ?_) W args ha
  · clear ha
    obtain ⟨v0, vs0, rfl, h0, hp⟩ := hp.cons
    obtain ⟨v1, vs1, rfl, h1, hp⟩ := hp.cons
    obtain ⟨v2, vs2, rfl, h2, hp⟩ := hp.cons
    obtain ⟨v3, vs3, rfl, h3, hp⟩ := hp.cons
    obtain ⟨v4, vs4, rfl, h4, hp⟩ := hp.cons
    obtain ⟨v5, vs5, rfl, h5, hp⟩ := hp.cons
    obtain rfl := hp.nil
    clear hw
    obtain ⟨ds0, rfl, hl0, hd0⟩ := h0.many (by kernel_rfl) lv_26
    have g0_0 : LeavesD Try.prog 6 _ ds0 := ⟨hl0, hd0⟩
    obtain ⟨d0_0, ds0_0, rfl, e0_0, g0_1⟩ := g0_0.cons
    obtain ⟨pw, rfl⟩ := e0_0.int Try.underlying3
    obtain ⟨d0_1, ds0_1, rfl, e0_1, g0_2⟩ := g0_1.cons
    obtain ⟨ph, rfl⟩ := e0_1.int Try.underlying3
    obtain ⟨d0_2, ds0_2, rfl, e0_2, g0_3⟩ := g0_2.cons
    obtain ⟨so_, rfl⟩ := e0_2.int Try.underlying3
    obtain ⟨d0_3, ds0_3, rfl, e0_3, g0_4⟩ := g0_3.cons
    obtain ⟨mood, rfl⟩ := e0_3.int Try.underlying3
    obtain ⟨d0_4, ds0_4, rfl, e0_4, g0_5⟩ := g0_4.cons
    obtain ⟨L, xs_, rfl, by_xs_, len_xs_, at_xs_⟩ := e0_4.slice Try.underlying22 lv_81
    obtain rfl := g0_5.nil
    obtain ⟨what, rfl⟩ := h1.one Try.underlying3
    obtain ⟨by_, rfl⟩ := h2.one Try.underlying3
    obtain ⟨mx, rfl⟩ := h3.one Try.underlying3
    obtain ⟨v, rfl⟩ := h4.one Try.underlying27
    obtain ⟨ds5, rfl, hl5, hd5⟩ := h5.many (by kernel_rfl) lv_36
    have g5_0 : LeavesD Try.prog 6 _ ds5 := ⟨hl5, hd5⟩
    obtain ⟨d5_0, ds5_0, rfl, e5_0, g5_1⟩ := g5_0.cons
    obtain ⟨w, rfl⟩ := e5_0.int Try.underlying3
    obtain ⟨d5_1, ds5_1, rfl, e5_1, g5_2⟩ := g5_1.cons
    obtain ⟨h, rfl⟩ := e5_1.int Try.underlying3
    obtain ⟨d5_2, ds5_2, rfl, e5_2, g5_3⟩ := g5_2.cons
    obtain ⟨so, rfl⟩ := e5_2.bool Try.underlying4
    obtain ⟨d5_3, ds5_3, rfl, e5_3, g5_4⟩ := g5_3.cons
    obtain ⟨c0, rfl⟩ := e5_3.int Try.underlying27
    obtain ⟨d5_4, ds5_4, rfl, e5_4, g5_5⟩ := g5_4.cons
    obtain ⟨c1, rfl⟩ := e5_4.int Try.underlying27
    obtain ⟨d5_5, ds5_5, rfl, e5_5, g5_6⟩ := g5_5.cons
    obtain ⟨c2, rfl⟩ := e5_5.int Try.underlying27
    obtain ⟨d5_6, ds5_6, rfl, e5_6, g5_7⟩ := g5_6.cons
    obtain ⟨ca, rfl⟩ := e5_6.int Try.underlying27
    obtain ⟨d5_7, ds5_7, rfl, e5_7, g5_8⟩ := g5_7.cons
    obtain ⟨cf, rfl⟩ := e5_7.int Try.underlying27
    obtain ⟨d5_8, ds5_8, rfl, e5_8, g5_9⟩ := g5_8.cons
    obtain ⟨w0, rfl⟩ := e5_8.int Try.underlying3
    obtain ⟨d5_9, ds5_9, rfl, e5_9, g5_10⟩ := g5_9.cons
    obtain ⟨h0, rfl⟩ := e5_9.int Try.underlying3
    obtain ⟨d5_10, ds5_10, rfl, e5_10, g5_11⟩ := g5_10.cons
    obtain ⟨s0, rfl⟩ := e5_10.int Try.underlying3
    obtain ⟨d5_11, ds5_11, rfl, e5_11, g5_12⟩ := g5_11.cons
    obtain ⟨n0, xs0, rfl, by_xs0, len_xs0, at_xs0⟩ := e5_11.slice Try.underlying31 lv_27
    obtain ⟨d5_12, ds5_12, rfl, e5_12, g5_13⟩ := g5_12.cons
    obtain ⟨w1, rfl⟩ := e5_12.int Try.underlying3
    obtain ⟨d5_13, ds5_13, rfl, e5_13, g5_14⟩ := g5_13.cons
    obtain ⟨h1, rfl⟩ := e5_13.int Try.underlying3
    obtain ⟨d5_14, ds5_14, rfl, e5_14, g5_15⟩ := g5_14.cons
    obtain ⟨s1, rfl⟩ := e5_14.int Try.underlying3
    obtain ⟨d5_15, ds5_15, rfl, e5_15, g5_16⟩ := g5_15.cons
    obtain ⟨n1, xs1, rfl, by_xs1, len_xs1, at_xs1⟩ := e5_15.slice Try.underlying31 lv_27
    obtain ⟨d5_16, ds5_16, rfl, e5_16, g5_17⟩ := g5_16.cons
    obtain ⟨w2, rfl⟩ := e5_16.int Try.underlying3
    obtain ⟨d5_17, ds5_17, rfl, e5_17, g5_18⟩ := g5_17.cons
    obtain ⟨h2, rfl⟩ := e5_17.int Try.underlying3
    obtain ⟨d5_18, ds5_18, rfl, e5_18, g5_19⟩ := g5_18.cons
    obtain ⟨s2, rfl⟩ := e5_18.int Try.underlying3
    obtain ⟨d5_19, ds5_19, rfl, e5_19, g5_20⟩ := g5_19.cons
    obtain ⟨n2, xs2, rfl, by_xs2, len_xs2, at_xs2⟩ := e5_19.slice Try.underlying31 lv_27
    obtain ⟨d5_20, ds5_20, rfl, e5_20, g5_21⟩ := g5_20.cons
    obtain ⟨w3, rfl⟩ := e5_20.int Try.underlying3
    obtain ⟨d5_21, ds5_21, rfl, e5_21, g5_22⟩ := g5_21.cons
    obtain ⟨h3, rfl⟩ := e5_21.int Try.underlying3
    obtain ⟨d5_22, ds5_22, rfl, e5_22, g5_23⟩ := g5_22.cons
    obtain ⟨s3, rfl⟩ := e5_22.int Try.underlying3
    obtain ⟨d5_23, ds5_23, rfl, e5_23, g5_24⟩ := g5_23.cons
    obtain ⟨n3, xs3, rfl, by_xs3, len_xs3, at_xs3⟩ := e5_23.slice Try.underlying31 lv_27
    obtain ⟨d5_24, ds5_24, rfl, e5_24, g5_25⟩ := g5_24.cons
    obtain ⟨w4, rfl⟩ := e5_24.int Try.underlying3
    obtain ⟨d5_25, ds5_25, rfl, e5_25, g5_26⟩ := g5_25.cons
    obtain ⟨h4, rfl⟩ := e5_25.int Try.underlying3
    obtain ⟨d5_26, ds5_26, rfl, e5_26, g5_27⟩ := g5_26.cons
    obtain ⟨s4, rfl⟩ := e5_26.int Try.underlying3
    obtain ⟨d5_27, ds5_27, rfl, e5_27, g5_28⟩ := g5_27.cons
    obtain ⟨n4, xs4, rfl, by_xs4, len_xs4, at_xs4⟩ := e5_27.slice Try.underlying31 lv_27
    obtain rfl := g5_28.nil
    exact L15_ImageValidAgrees_ans pw ph so_ mood L xs_ what by_ mx v ⟨w, h, so, ⟨c0, c1, c2, ca, cf⟩, ⟨w0, h0, s0, n0, xs0⟩, ⟨w1, h1, s1, n1, xs1⟩, ⟨w2, h2, s2, n2, xs2⟩, ⟨w3, h3, s3, n3, xs3⟩, ⟨w4, h4, s4, n4, xs4⟩⟩ (is5_of len_xs_ fun j d hj => by obtain ⟨t', a, q, b⟩ := at_xs_ j d hj; exact intLeaf5 Try.underlying3 a b) ⟨(isU_of (by simpa using len_xs0) fun j d hj => by obtain ⟨t', a, q, b⟩ := at_xs0 j d hj; exact intLeaf1 Try.underlying27 a b), (isU_of (by simpa using len_xs1) fun j d hj => by obtain ⟨t', a, q, b⟩ := at_xs1 j d hj; exact intLeaf1 Try.underlying27 a b), (isU_of (by simpa using len_xs2) fun j d hj => by obtain ⟨t', a, q, b⟩ := at_xs2 j d hj; exact intLeaf1 Try.underlying27 a b), (isU_of (by simpa using len_xs3) fun j d hj => by obtain ⟨t', a, q, b⟩ := at_xs3 j d hj; exact intLeaf1 Try.underlying27 a b), (isU_of (by simpa using len_xs4) fun j d hj => by obtain ⟨t', a, q, b⟩ := at_xs4 j d hj; exact intLeaf1 Try.underlying27 a b)⟩

set_option maxRecDepth 100000 in
theorem lifted (os : Os) (started : os.Started) (H : Type) (enc : TypeId × Value → H) :
    ReturnsInHanded {} Try.checked os 3 .any (Rows.imageValidAgreesSpec.pre6 enc Try.prog Try.f3 Rows.imageValidAgreesRow.domain false) (Rows.imageValidAgreesSpec.post enc Try.prog Try.f3 false true false false) :=
  law_lift (C := Try.checked) (tb := 4) closed.own started (by kernel_rfl) Try.func3
    (ChangeSpec.witness6 (enc := enc) (C := Try.checked) false ⟨#[], #[.agg #[.int .i64 0, .int .i64 0, .int .i64 0, .int .i64 0, .slice none 0 0], .int .i64 0, .int .i64 0, .int .i64 0, .int .u16 0, .agg #[.int .i64 0, .int .i64 0, .bool false, .int .u16 0, .int .u16 0, .int .u16 0, .int .u16 0, .int .u16 0, .int .i64 0, .int .i64 0, .int .i64 0, .slice none 0 0, .int .i64 0, .int .i64 0, .int .i64 0, .slice none 0 0, .int .i64 0, .int .i64 0, .int .i64 0, .slice none 0 0, .int .i64 0, .int .i64 0, .int .i64 0, .slice none 0 0, .int .i64 0, .int .i64 0, .int .i64 0, .slice none 0 0]], []⟩ 8 (by kernel_rfl) (by kernel_rfl) (by kernel_rfl) (by kernel_rfl))
    (fun ds h => by
      rw [Try.params3] at h
      match ds, h with
      | [d0, d1, d2, d3, d4, d5], _ => rfl)
    rfl (by kernel_rfl) Try.underlying4 closed.laidOut
    (fun t ht => by
      have hall : (Try.f3.params.toList.all fun t => Try.prog.readableRec t && decide (t < Try.prog.types.size)) = true := by kernel_rfl
      have h2 := List.all_eq_true.1 hall t ht
      rw [Bool.and_eq_true] at h2
      exact ⟨h2.1, of_decide_eq_true h2.2⟩)
    told

theorem joined : joinedFacts Try.prog 3 Try.f3 Rows.imageValidAgreesSpec Rows.imageValidAgreesRow = true := by
  unfold joinedFacts
  simp only [Bool.and_eq_true]
  and_intros
  all_goals first
    | (with_reducible exact closed.laidOut)
    | (with_reducible exact closed.mapsRow)
    | (with_reducible exact closed.noStops)
    | (with_reducible exact closed.noKnobs)
    | (with_reducible exact closed.heard)
    | (with_reducible exact closed.enters)
    | (rw [closed.liftsNot]; kernel_rfl)
    | (rw [closed.made]; kernel_rfl)
    | (rw [closed.plain]; kernel_rfl)
    | kernel_rfl

theorem over : Rows.imageValidAgreesRow.holds Try.pinned (OpenSpec.ofChange Rows.imageValidAgreesSpec) :=
  OpenClaim.holds_of_wide 3 Try.f3 rfl rfl rfl rfl rfl rfl rfl ⟨rfl, rfl, rfl, rfl, rfl⟩ rfl rfl rfl rfl rfl (by kernel_rfl) Try.func3 joined
    (of_decide_eq_true (by kernel_rfl)) (by unfold Func.isWrapper; first | (rw [if_pos (by decide +kernel)]; kernel_rfl) | (rw [if_neg (by decide +kernel)]; exact ⟨rfl, rfl⟩))
    (fun os started H enc _ => lifted os started H enc)

/-- the statement -/
theorem proved : Rows.ImageValidAgreesSaid := over
#print axioms proved
end Go.Proofs.Ytfeknaojnominaa.imageValidAgrees
