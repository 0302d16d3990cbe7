/-
  compositorlaw17.TileIndexAgrees returns true: which tile contains a point is what the reference says, for every canvas, size and point.
  For every input: no condition.
-/
import Derived.Test.YtoljdijpmnadpaaLawTileIndex
import Derived.Test.YtoljdijpmnadpaaData
import Derived.Test.YtoljdijpmnadpaaClosed
namespace Go.Proofs.Ytoljdijpmnadpaa.tileIndexAgrees
open Go.ChangeShapes Go.WideShapes Go.ChangeAt Go.RowKit
set_option linter.unusedVariables false
set_option linter.unusedSimpArgs false

theorem leaves_arr4 : leaves Try.prog 8 24 = some [3, 3, 3, 3] := by kernel_rfl
theorem leaves_rect : leaves Try.prog 8 23 = some [3, 3, 3, 3] := by kernel_rfl

set_option maxRecDepth 100000 in
theorem told (W : World) (args : Array Value) (ha : Args Try.prog W Try.f4.params.toList args.toList) :
    Calls Try.prog 4 args W fun e W' => e = .returned (.bool true) ∧ Below W.heap.size W W' := by
  rw [Try.params4] at ha
  obtain ⟨v0, vs0, hv, h0, r0⟩ := Args.cons ha
  obtain ⟨v1, vs1, rfl, h1, r1⟩ := Args.cons r0
  obtain ⟨v2, vs2, rfl, h2, r2⟩ := Args.cons r1
  obtain ⟨v3, vs3, rfl, h3, r3⟩ := Args.cons r2
  obtain ⟨v4, vs4, rfl, h4, r4⟩ := Args.cons r3
  obtain ⟨v5, vs5, rfl, h5, r5⟩ := Args.cons r4
  obtain rfl := Args.nil r5
  obtain rfl : args = #[v0, v1, v2, v3, v4, v5] := by cases args; simp_all
  clear hv ha r0 r1 r2 r3 r4
  obtain ⟨cs0, rfl, hl0, g0, hr0⟩ := h0.many (.inr ⟨_, _, Try.underlying24⟩) (n := 4) (by kernel_rfl)
  obtain ⟨z0, z1, z2, z3, rfl⟩ := len4 hl0
  obtain ⟨n0, rfl, wf_n0⟩ := Rd.one_int (hr0.leaf (leaves_arr4) 0 rfl rfl) Try.underlying3
  obtain ⟨n1, rfl, wf_n1⟩ := Rd.one_int (hr0.leaf (leaves_arr4) 1 rfl rfl) Try.underlying3
  obtain ⟨n2, rfl, wf_n2⟩ := Rd.one_int (hr0.leaf (leaves_arr4) 2 rfl rfl) Try.underlying3
  obtain ⟨n3, rfl, wf_n3⟩ := Rd.one_int (hr0.leaf (leaves_arr4) 3 rfl rfl) Try.underlying3
  obtain ⟨ww, rfl, wf_ww⟩ := h1.int Try.underlying3
  obtain ⟨lo_ww, hi_ww⟩ := bounds_i64 wf_ww
  obtain ⟨h, rfl, wf_h⟩ := h2.int Try.underlying3
  obtain ⟨lo_h, hi_h⟩ := bounds_i64 wf_h
  obtain ⟨x, rfl, wf_x⟩ := h3.int Try.underlying3
  obtain ⟨lo_x, hi_x⟩ := bounds_i64 wf_x
  obtain ⟨y, rfl, wf_y⟩ := h4.int Try.underlying3
  obtain ⟨lo_y, hi_y⟩ := bounds_i64 wf_y
  obtain ⟨cs5, rfl, hl5, g5, hr5⟩ := h5.many (.inl ⟨_, Try.underlying23⟩) (n := 4) (by kernel_rfl)
  obtain ⟨z0, z1, z2, z3, rfl⟩ := len4 hl5
  obtain ⟨c0, rfl, wf_c0⟩ := Rd.one_int (hr5.leaf (leaves_rect) 0 rfl rfl) Try.underlying3
  obtain ⟨c1, rfl, wf_c1⟩ := Rd.one_int (hr5.leaf (leaves_rect) 1 rfl rfl) Try.underlying3
  obtain ⟨c2, rfl, wf_c2⟩ := Rd.one_int (hr5.leaf (leaves_rect) 2 rfl rfl) Try.underlying3
  obtain ⟨c3, rfl, wf_c3⟩ := Rd.one_int (hr5.leaf (leaves_rect) 3 rfl rfl) Try.underlying3
  exact TileIndexAgrees_walk n0 n1 n2 n3 ww h x y c0 c1 c2 c3 W lo_x hi_x lo_y hi_y

set_option maxRecDepth 100000 in
theorem lifted (os : Os) (started : os.Started) (H : Type) (enc : TypeId × Value → H) :
    ReturnsInHanded {} Try.checked os 4 .any (Rows.tileIndexAgreesSpec.pre6 enc Try.prog Try.f4 Rows.tileIndexAgreesRow.domain false) (Rows.tileIndexAgreesSpec.post enc Try.prog Try.f4 false true false false) :=
  law_lift (C := Try.checked) (tb := 4) closed.own started (by kernel_rfl) Try.func4
    (ChangeSpec.witness6 (enc := enc) (C := Try.checked) false ⟨#[], #[.agg #[.int .i64 0, .int .i64 0, .int .i64 0, .int .i64 0], .int .i64 0, .int .i64 0, .int .i64 0, .int .i64 0, .agg #[.int .i64 0, .int .i64 0, .int .i64 0, .int .i64 0]], []⟩ 8 (by kernel_rfl) (by kernel_rfl) (by kernel_rfl) (by kernel_rfl))
    (fun ds h => by
      rw [Try.params4] at h
      match ds, h with
      | [d0, d1, d2, d3, d4, d5], _ => rfl)
    rfl (by kernel_rfl) Try.underlying4 closed.laidOut
    (fun t ht => by
      have hall : (Try.f4.params.toList.all fun t => Try.prog.readableRec t && decide (t < Try.prog.types.size)) = true := by kernel_rfl
      have h2 := List.all_eq_true.1 hall t ht
      rw [Bool.and_eq_true] at h2
      exact ⟨h2.1, of_decide_eq_true h2.2⟩)
    told

theorem joined : joinedFacts Try.prog 4 Try.f4 Rows.tileIndexAgreesSpec Rows.tileIndexAgreesRow = true := by
  unfold joinedFacts
  simp only [Bool.and_eq_true]
  and_intros
  all_goals first
    | (with_reducible exact closed.laidOut)
    | (with_reducible exact closed.mapsRow)
    | (with_reducible exact closed.noStops)
    | (with_reducible exact closed.noKnobs)
    | (with_reducible exact closed.heard)
    | (with_reducible exact closed.enters)
    | (rw [closed.liftsNot]; kernel_rfl)
    | (rw [closed.made]; kernel_rfl)
    | (rw [closed.plain]; kernel_rfl)
    | kernel_rfl

theorem over : Rows.tileIndexAgreesRow.holds Try.pinned (OpenSpec.ofChange Rows.tileIndexAgreesSpec) :=
  OpenClaim.holds_of_wide 4 Try.f4 rfl rfl rfl rfl rfl rfl rfl ⟨rfl, rfl, rfl, rfl, rfl⟩ rfl rfl rfl rfl rfl (by kernel_rfl) Try.func4 joined
    (of_decide_eq_true (by kernel_rfl)) (by unfold Func.isWrapper; first | (rw [if_pos (by decide +kernel)]; kernel_rfl) | (rw [if_neg (by decide +kernel)]; exact ⟨rfl, rfl⟩))
    (fun os started H enc _ => lifted os started H enc)

/-- the statement -/
theorem proved : Rows.TileIndexAgreesSaid := over
#print axioms proved
end Go.Proofs.Ytoljdijpmnadpaa.tileIndexAgrees
