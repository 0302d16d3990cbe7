/-
  compositorlaw15.ImageConverts answers true, whatever it is handed.
  For every input: no condition.
-/
import Derived.Test.YtfeknaojnominaaLw15ImageConverts
import Derived.Test.YtfeknaojnominaaData
import Derived.Test.YtfeknaojnominaaClosed
namespace Go.Proofs.Ytfeknaojnominaa.imageConverts
open Go.ChangeShapes Go.WideShapes Go.ChangeAt Go.RowKit
set_option linter.unusedVariables false
set_option linter.unusedSimpArgs false

theorem lv_26 : lv Try.prog 26 = some [3, 3, 3, 3, 22] := by kernel_rfl
theorem lv_81 : lv Try.prog 81 = some [3, 3, 3, 3, 3] := by kernel_rfl
theorem lv_30 : lv Try.prog 30 = some [27, 27, 27, 27, 27] := by kernel_rfl

set_option maxRecDepth 100000 in
theorem told (W : World) (args : Array Value) (ha : Args Try.prog W Try.f9.params.toList args.toList) :
    Calls Try.prog 9 args W fun e W' => e = .returned (.bool true) ∧ Below W.heap.size W W' := by
  rw [Try.params9] at ha
  refine told_of (by kernel_rfl) (fun rs hp hw => ?_) W args ha
  · clear ha
    obtain ⟨v0, vs0, rfl, h0, hp⟩ := hp.cons
    obtain ⟨v1, vs1, rfl, h1, hp⟩ := hp.cons
    obtain ⟨v2, vs2, rfl, h2, hp⟩ := hp.cons
    obtain ⟨v3, vs3, rfl, h3, hp⟩ := hp.cons
    obtain ⟨v4, vs4, rfl, h4, hp⟩ := hp.cons
    obtain ⟨v5, vs5, rfl, h5, hp⟩ := hp.cons
    obtain rfl := hp.nil
    clear hw
    obtain ⟨ds0, rfl, hl0, hd0⟩ := h0.many (by kernel_rfl) lv_26
    have g0_0 : LeavesD Try.prog 6 _ ds0 := ⟨hl0, hd0⟩
    obtain ⟨d0_0, ds0_0, rfl, e0_0, g0_1⟩ := g0_0.cons
    obtain ⟨pw, rfl⟩ := e0_0.int Try.underlying3
    obtain ⟨d0_1, ds0_1, rfl, e0_1, g0_2⟩ := g0_1.cons
    obtain ⟨ph, rfl⟩ := e0_1.int Try.underlying3
    obtain ⟨d0_2, ds0_2, rfl, e0_2, g0_3⟩ := g0_2.cons
    obtain ⟨so_, rfl⟩ := e0_2.int Try.underlying3
    obtain ⟨d0_3, ds0_3, rfl, e0_3, g0_4⟩ := g0_3.cons
    obtain ⟨mood, rfl⟩ := e0_3.int Try.underlying3
    obtain ⟨d0_4, ds0_4, rfl, e0_4, g0_5⟩ := g0_4.cons
    obtain ⟨L, xs_, rfl, by_xs_, len_xs_, at_xs_⟩ := e0_4.slice Try.underlying22 lv_81
    obtain rfl := g0_5.nil
    obtain ⟨from_, rfl⟩ := h1.one Try.underlying3
    obtain ⟨to_, rfl⟩ := h2.one Try.underlying3
    obtain ⟨more, rfl⟩ := h3.one Try.underlying3
    obtain ⟨mx, rfl⟩ := h4.one Try.underlying3
    obtain ⟨ds5, rfl, hl5, hd5⟩ := h5.many (by kernel_rfl) lv_30
    have g5_0 : LeavesD Try.prog 6 _ ds5 := ⟨hl5, hd5⟩
    obtain ⟨d5_0, ds5_0, rfl, e5_0, g5_1⟩ := g5_0.cons
    obtain ⟨c0, rfl⟩ := e5_0.int Try.underlying27
    obtain ⟨d5_1, ds5_1, rfl, e5_1, g5_2⟩ := g5_1.cons
    obtain ⟨c1, rfl⟩ := e5_1.int Try.underlying27
    obtain ⟨d5_2, ds5_2, rfl, e5_2, g5_3⟩ := g5_2.cons
    obtain ⟨c2, rfl⟩ := e5_2.int Try.underlying27
    obtain ⟨d5_3, ds5_3, rfl, e5_3, g5_4⟩ := g5_3.cons
    obtain ⟨ca, rfl⟩ := e5_3.int Try.underlying27
    obtain ⟨d5_4, ds5_4, rfl, e5_4, g5_5⟩ := g5_4.cons
    obtain ⟨cf, rfl⟩ := e5_4.int Try.underlying27
    obtain rfl := g5_5.nil
    exact L15_ImageConverts_ans pw ph so_ mood L xs_ from_ to_ more mx c0 c1 c2 ca cf (is5_of len_xs_ fun j d hj => by obtain ⟨t', a, q, b⟩ := at_xs_ j d hj; exact intLeaf5 Try.underlying3 a b)

set_option maxRecDepth 100000 in
theorem lifted (os : Os) (started : os.Started) (H : Type) (enc : TypeId × Value → H) :
    ReturnsInHanded {} Try.checked os 9 .any (Rows.imageConvertsSpec.pre6 enc Try.prog Try.f9 Rows.imageConvertsRow.domain false) (Rows.imageConvertsSpec.post enc Try.prog Try.f9 false true false false) :=
  law_lift (C := Try.checked) (tb := 4) closed.own started (by kernel_rfl) Try.func9
    (ChangeSpec.witness6 (enc := enc) (C := Try.checked) false ⟨#[], #[.agg #[.int .i64 0, .int .i64 0, .int .i64 0, .int .i64 0, .slice none 0 0], .int .i64 0, .int .i64 0, .int .i64 0, .int .i64 0, .agg #[.int .u16 0, .int .u16 0, .int .u16 0, .int .u16 0, .int .u16 0]], []⟩ 8 (by kernel_rfl) (by kernel_rfl) (by kernel_rfl) (by kernel_rfl))
    (fun ds h => by
      rw [Try.params9] at h
      match ds, h with
      | [d0, d1, d2, d3, d4, d5], _ => rfl)
    rfl (by kernel_rfl) Try.underlying4 closed.laidOut
    (fun t ht => by
      have hall : (Try.f9.params.toList.all fun t => Try.prog.readableRec t && decide (t < Try.prog.types.size)) = true := by kernel_rfl
      have h2 := List.all_eq_true.1 hall t ht
      rw [Bool.and_eq_true] at h2
      exact ⟨h2.1, of_decide_eq_true h2.2⟩)
    told

theorem joined : joinedFacts Try.prog 9 Try.f9 Rows.imageConvertsSpec Rows.imageConvertsRow = true := by
  unfold joinedFacts
  simp only [Bool.and_eq_true]
  and_intros
  all_goals first
    | (with_reducible exact closed.laidOut)
    | (with_reducible exact closed.mapsRow)
    | (with_reducible exact closed.noStops)
    | (with_reducible exact closed.noKnobs)
    | (with_reducible exact closed.heard)
    | (with_reducible exact closed.enters)
    | (rw [closed.liftsNot]; kernel_rfl)
    | (rw [closed.made]; kernel_rfl)
    | (rw [closed.plain]; kernel_rfl)
    | kernel_rfl

theorem over : Rows.imageConvertsRow.holds Try.pinned (OpenSpec.ofChange Rows.imageConvertsSpec) :=
  OpenClaim.holds_of_wide 9 Try.f9 rfl rfl rfl rfl rfl rfl rfl ⟨rfl, rfl, rfl, rfl, rfl⟩ rfl rfl rfl rfl rfl (by kernel_rfl) Try.func9 joined
    (of_decide_eq_true (by kernel_rfl)) (by unfold Func.isWrapper; first | (rw [if_pos (by decide +kernel)]; kernel_rfl) | (rw [if_neg (by decide +kernel)]; exact ⟨rfl, rfl⟩))
    (fun os started H enc _ => lifted os started H enc)

/-- the statement -/
theorem proved : Rows.ImageConvertsSaid := over
#print axioms proved
end Go.Proofs.Ytfeknaojnominaa.imageConverts
