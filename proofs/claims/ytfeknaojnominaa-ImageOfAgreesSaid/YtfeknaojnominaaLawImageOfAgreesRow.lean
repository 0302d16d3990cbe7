/-
  compositorlaw15.ImageOfAgrees answers true, whatever it is handed.
  For every input: no condition.
-/
import Derived.Test.YtfeknaojnominaaLw15ImageOfAgrees
import Derived.Test.YtfeknaojnominaaData
import Derived.Test.YtfeknaojnominaaClosed
namespace Go.Proofs.Ytfeknaojnominaa.imageOfAgrees
open Go.ChangeShapes Go.WideShapes Go.ChangeAt Go.RowKit
set_option linter.unusedVariables false
set_option linter.unusedSimpArgs false

theorem lv_24 : lv Try.prog 24 = some [3, 22] := by kernel_rfl
theorem lv_81 : lv Try.prog 81 = some [3, 3, 3, 3, 3] := by kernel_rfl
theorem lv_30 : lv Try.prog 30 = some [27, 27, 27, 27, 27] := by kernel_rfl

set_option maxRecDepth 100000 in
theorem told (W : World) (args : Array Value) (ha : Args Try.prog W Try.f4.params.toList args.toList) :
    Calls Try.prog 4 args W fun e W' => e = .returned (.bool true) ∧ Below W.heap.size W W' := by
  rw [Try.params4] at ha
  refine told_of (by kernel_rfl) (fun rs hp hw => ?_) W args ha
  · clear ha
    obtain ⟨v0, vs0, rfl, h0, hp⟩ := hp.cons
    obtain ⟨v1, vs1, rfl, h1, hp⟩ := hp.cons
    obtain ⟨v2, vs2, rfl, h2, hp⟩ := hp.cons
    obtain ⟨v3, vs3, rfl, h3, hp⟩ := hp.cons
    obtain ⟨v4, vs4, rfl, h4, hp⟩ := hp.cons
    obtain ⟨v5, vs5, rfl, h5, hp⟩ := hp.cons
    obtain ⟨v6, vs6, rfl, h6, hp⟩ := hp.cons
    obtain ⟨v7, vs7, rfl, h7, hp⟩ := hp.cons
    obtain rfl := hp.nil
    clear hw
    obtain ⟨ds0, rfl, hl0, hd0⟩ := h0.many (by kernel_rfl) lv_24
    have g0_0 : LeavesD Try.prog 6 _ ds0 := ⟨hl0, hd0⟩
    obtain ⟨d0_0, ds0_0, rfl, e0_0, g0_1⟩ := g0_0.cons
    obtain ⟨mood, rfl⟩ := e0_0.int Try.underlying3
    obtain ⟨d0_1, ds0_1, rfl, e0_1, g0_2⟩ := g0_1.cons
    obtain ⟨L, xs, rfl, by_xs, len_xs, at_xs⟩ := e0_1.slice Try.underlying22 lv_81
    obtain rfl := g0_2.nil
    obtain ⟨w, rfl⟩ := h1.one Try.underlying3
    obtain ⟨h, rfl⟩ := h2.one Try.underlying3
    obtain ⟨more, rfl⟩ := h3.one Try.underlying3
    obtain ⟨mx, rfl⟩ := h4.one Try.underlying3
    obtain ⟨ds5, rfl, hl5, hd5⟩ := h5.many (by kernel_rfl) lv_30
    have g5_0 : LeavesD Try.prog 6 _ ds5 := ⟨hl5, hd5⟩
    obtain ⟨d5_0, ds5_0, rfl, e5_0, g5_1⟩ := g5_0.cons
    obtain ⟨c0, rfl⟩ := e5_0.int Try.underlying27
    obtain ⟨d5_1, ds5_1, rfl, e5_1, g5_2⟩ := g5_1.cons
    obtain ⟨c1, rfl⟩ := e5_1.int Try.underlying27
    obtain ⟨d5_2, ds5_2, rfl, e5_2, g5_3⟩ := g5_2.cons
    obtain ⟨c2, rfl⟩ := e5_2.int Try.underlying27
    obtain ⟨d5_3, ds5_3, rfl, e5_3, g5_4⟩ := g5_3.cons
    obtain ⟨ca, rfl⟩ := e5_3.int Try.underlying27
    obtain ⟨d5_4, ds5_4, rfl, e5_4, g5_5⟩ := g5_4.cons
    obtain ⟨cf, rfl⟩ := e5_4.int Try.underlying27
    obtain rfl := g5_5.nil
    obtain ⟨rw, rfl⟩ := h6.one Try.underlying3
    obtain ⟨rh, rfl⟩ := h7.one Try.underlying3
    exact L15_ImageOfAgrees_ans mood L xs w h more mx c0 c1 c2 ca cf rw rh (is5_of len_xs fun j d hj => by obtain ⟨t', a, q, b⟩ := at_xs j d hj; exact intLeaf5 Try.underlying3 a b)

set_option maxRecDepth 100000 in
theorem lifted (os : Os) (started : os.Started) (H : Type) (enc : TypeId × Value → H) :
    ReturnsInHanded {} Try.checked os 4 .any (Rows.imageOfAgreesSpec.pre6 enc Try.prog Try.f4 Rows.imageOfAgreesRow.domain false) (Rows.imageOfAgreesSpec.post enc Try.prog Try.f4 false true false false) :=
  law_lift (C := Try.checked) (tb := 4) closed.own started (by kernel_rfl) Try.func4
    (ChangeSpec.witness6 (enc := enc) (C := Try.checked) false ⟨#[], #[.agg #[.int .i64 0, .slice none 0 0], .int .i64 0, .int .i64 0, .int .i64 0, .int .i64 0, .agg #[.int .u16 0, .int .u16 0, .int .u16 0, .int .u16 0, .int .u16 0], .int .i64 0, .int .i64 0], []⟩ 8 (by kernel_rfl) (by kernel_rfl) (by kernel_rfl) (by kernel_rfl))
    (fun ds h => by
      rw [Try.params4] at h
      match ds, h with
      | [d0, d1, d2, d3, d4, d5, d6, d7], _ => rfl)
    rfl (by kernel_rfl) Try.underlying4 closed.laidOut
    (fun t ht => by
      have hall : (Try.f4.params.toList.all fun t => Try.prog.readableRec t && decide (t < Try.prog.types.size)) = true := by kernel_rfl
      have h2 := List.all_eq_true.1 hall t ht
      rw [Bool.and_eq_true] at h2
      exact ⟨h2.1, of_decide_eq_true h2.2⟩)
    told

theorem joined : joinedFacts Try.prog 4 Try.f4 Rows.imageOfAgreesSpec Rows.imageOfAgreesRow = true := by
  unfold joinedFacts
  simp only [Bool.and_eq_true]
  and_intros
  all_goals first
    | (with_reducible exact closed.laidOut)
    | (with_reducible exact closed.mapsRow)
    | (with_reducible exact closed.noStops)
    | (with_reducible exact closed.noKnobs)
    | (with_reducible exact closed.heard)
    | (with_reducible exact closed.enters)
    | (rw [closed.liftsNot]; kernel_rfl)
    | (rw [closed.made]; kernel_rfl)
    | (rw [closed.plain]; kernel_rfl)
    | kernel_rfl

theorem over : Rows.imageOfAgreesRow.holds Try.pinned (OpenSpec.ofChange Rows.imageOfAgreesSpec) :=
  OpenClaim.holds_of_wide 4 Try.f4 rfl rfl rfl rfl rfl rfl rfl ⟨rfl, rfl, rfl, rfl, rfl⟩ rfl rfl rfl rfl rfl (by kernel_rfl) Try.func4 joined
    (of_decide_eq_true (by kernel_rfl)) (by unfold Func.isWrapper; first | (rw [if_pos (by decide +kernel)]; kernel_rfl) | (rw [if_neg (by decide +kernel)]; exact ⟨rfl, rfl⟩))
    (fun os started H enc _ => lifted os started H enc)

/-- the statement -/
theorem proved : Rows.ImageOfAgreesSaid := over
#print axioms proved
end Go.Proofs.Ytfeknaojnominaa.imageOfAgrees
