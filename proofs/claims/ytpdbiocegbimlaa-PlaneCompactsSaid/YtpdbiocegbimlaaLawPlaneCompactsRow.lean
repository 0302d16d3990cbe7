/-
  compositorlaw14.PlaneCompacts answers true, whatever it is handed.
  For every input: no condition.
-/
import Derived.Test.YtpdbiocegbimlaaLw14PlaneCompacts
import Derived.Test.YtpdbiocegbimlaaData
import Derived.Test.YtpdbiocegbimlaaClosed
namespace Go.Proofs.Ytpdbiocegbimlaa.planeCompacts
open Go.ChangeShapes Go.WideShapes Go.ChangeAt Go.RowKit
set_option linter.unusedVariables false
set_option linter.unusedSimpArgs false

theorem lv_26 : lv Try.prog 26 = some [3, 3, 3, 3, 22] := by kernel_rfl
theorem lv_38 : lv Try.prog 38 = some [38] := by kernel_rfl
theorem lv_24 : lv Try.prog 24 = some [3, 3, 3, 22] := by kernel_rfl

set_option maxRecDepth 100000 in
theorem told (W : World) (args : Array Value) (ha : Args Try.prog W Try.f5.params.toList args.toList) :
    Calls Try.prog 5 args W fun e W' => e = .returned (.bool true) ∧ Below W.heap.size W W' := by
  rw [Try.params5] at ha
  refine told_of (by kernel_rfl) (fun rs hp hw => ?_) W args ha
  · clear ha
    obtain ⟨v0, vs0, rfl, h0, hp⟩ := hp.cons
    obtain ⟨v1, vs1, rfl, h1, hp⟩ := hp.cons
    obtain rfl := hp.nil
    clear hw
    obtain ⟨ds0, rfl, hl0, hd0⟩ := h0.many (by kernel_rfl) lv_26
    have g0_0 : LeavesD Try.prog 6 _ ds0 := ⟨hl0, hd0⟩
    obtain ⟨d0_0, ds0_0, rfl, e0_0, g0_1⟩ := g0_0.cons
    obtain ⟨a, rfl⟩ := e0_0.int Try.underlying3
    obtain ⟨d0_1, ds0_1, rfl, e0_1, g0_2⟩ := g0_1.cons
    obtain ⟨b, rfl⟩ := e0_1.int Try.underlying3
    obtain ⟨d0_2, ds0_2, rfl, e0_2, g0_3⟩ := g0_2.cons
    obtain ⟨c, rfl⟩ := e0_2.int Try.underlying3
    obtain ⟨d0_3, ds0_3, rfl, e0_3, g0_4⟩ := g0_3.cons
    obtain ⟨d, rfl⟩ := e0_3.int Try.underlying3
    obtain ⟨d0_4, ds0_4, rfl, e0_4, g0_5⟩ := g0_4.cons
    obtain ⟨n', xs', rfl, by_xs', len_xs', at_xs'⟩ := e0_4.slice Try.underlying22 lv_38
    obtain rfl := g0_5.nil
    obtain ⟨ds1, rfl, hl1, hd1⟩ := h1.many (by kernel_rfl) lv_24
    have g1_0 : LeavesD Try.prog 6 _ ds1 := ⟨hl1, hd1⟩
    obtain ⟨d1_0, ds1_0, rfl, e1_0, g1_1⟩ := g1_0.cons
    obtain ⟨w, rfl⟩ := e1_0.int Try.underlying3
    obtain ⟨d1_1, ds1_1, rfl, e1_1, g1_2⟩ := g1_1.cons
    obtain ⟨h, rfl⟩ := e1_1.int Try.underlying3
    obtain ⟨d1_2, ds1_2, rfl, e1_2, g1_3⟩ := g1_2.cons
    obtain ⟨s, rfl⟩ := e1_2.int Try.underlying3
    obtain ⟨d1_3, ds1_3, rfl, e1_3, g1_4⟩ := g1_3.cons
    obtain ⟨n, xs, rfl, by_xs, len_xs, at_xs⟩ := e1_3.slice Try.underlying22 lv_38
    obtain rfl := g1_4.nil
    exact L14_PlaneCompacts_ans a b c d n' xs' w h s n xs (isU_of (by simpa using len_xs') fun j d hj => by obtain ⟨t', a, q, b⟩ := at_xs' j d hj; exact intLeaf1 Try.underlying38 a b) (isU_of (by simpa using len_xs) fun j d hj => by obtain ⟨t', a, q, b⟩ := at_xs j d hj; exact intLeaf1 Try.underlying38 a b)

set_option maxRecDepth 100000 in
theorem lifted (os : Os) (started : os.Started) (H : Type) (enc : TypeId × Value → H) :
    ReturnsInHanded {} Try.checked os 5 .any (Rows.planeCompactsSpec.pre6 enc Try.prog Try.f5 Rows.planeCompactsRow.domain false) (Rows.planeCompactsSpec.post enc Try.prog Try.f5 false true false false) :=
  law_lift (C := Try.checked) (tb := 4) closed.own started (by kernel_rfl) Try.func5
    (ChangeSpec.witness6 (enc := enc) (C := Try.checked) false ⟨#[], #[.agg #[.int .i64 0, .int .i64 0, .int .i64 0, .int .i64 0, .slice none 0 0], .agg #[.int .i64 0, .int .i64 0, .int .i64 0, .slice none 0 0]], []⟩ 8 (by kernel_rfl) (by kernel_rfl) (by kernel_rfl) (by kernel_rfl))
    (fun ds h => by
      rw [Try.params5] at h
      match ds, h with
      | [d0, d1], _ => rfl)
    rfl (by kernel_rfl) Try.underlying4 closed.laidOut
    (fun t ht => by
      have hall : (Try.f5.params.toList.all fun t => Try.prog.readableRec t && decide (t < Try.prog.types.size)) = true := by kernel_rfl
      have h2 := List.all_eq_true.1 hall t ht
      rw [Bool.and_eq_true] at h2
      exact ⟨h2.1, of_decide_eq_true h2.2⟩)
    told

theorem joined : joinedFacts Try.prog 5 Try.f5 Rows.planeCompactsSpec Rows.planeCompactsRow = true := by
  unfold joinedFacts
  simp only [Bool.and_eq_true]
  and_intros
  all_goals first
    | (with_reducible exact closed.laidOut)
    | (with_reducible exact closed.mapsRow)
    | (with_reducible exact closed.noStops)
    | (with_reducible exact closed.noKnobs)
    | (with_reducible exact closed.heard)
    | (with_reducible exact closed.enters)
    | (rw [closed.liftsNot]; kernel_rfl)
    | (rw [closed.made]; kernel_rfl)
    | (rw [closed.plain]; kernel_rfl)
    | kernel_rfl

theorem over : Rows.planeCompactsRow.holds Try.pinned (OpenSpec.ofChange Rows.planeCompactsSpec) :=
  OpenClaim.holds_of_wide 5 Try.f5 rfl rfl rfl rfl rfl rfl rfl ⟨rfl, rfl, rfl, rfl, rfl⟩ rfl rfl rfl rfl rfl (by kernel_rfl) Try.func5 joined
    (of_decide_eq_true (by kernel_rfl)) (by unfold Func.isWrapper; first | (rw [if_pos (by decide +kernel)]; kernel_rfl) | (rw [if_neg (by decide +kernel)]; exact ⟨rfl, rfl⟩))
    (fun os started H enc _ => lifted os started H enc)

/-- the statement -/
theorem proved : Rows.PlaneCompactsSaid := over
#print axioms proved
end Go.Proofs.Ytpdbiocegbimlaa.planeCompacts
