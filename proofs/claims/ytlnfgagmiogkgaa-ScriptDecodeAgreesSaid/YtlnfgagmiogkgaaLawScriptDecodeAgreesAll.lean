/-
  compositorlaw18.ScriptDecodeAgrees answers true, whatever it is handed.
  For every input: no condition.
-/
import Derived.Test.YtlnfgagmiogkgaaScriptDecodeAgreesZ6
import Derived.Test.YtlnfgagmiogkgaaScriptDecodeAgreesZ2
namespace Go.Proofs.Ytlnfgagmiogkgaa.scriptDecodeAgrees
open Go.ChangeShapes Go.WideShapes Go.ChangeAt Go.RowKit
set_option linter.unusedVariables false
set_option linter.unusedSimpArgs false

theorem lv_5 : lv Try.prog 5 = some [5] := by kernel_rfl
theorem lv_26 : lv Try.prog 26 = some [3, 3, 3, 3, 3, 3, 3, 22, 23, 24] := by kernel_rfl
theorem lv_3 : lv Try.prog 3 = some [3] := by kernel_rfl
theorem lv_72 : lv Try.prog 72 = some [3, 3, 3, 3, 68] := by kernel_rfl
theorem lv_129 : lv Try.prog 129 = some [3, 3, 3, 3, 3] := by kernel_rfl
theorem lv_75 : lv Try.prog 75 = some [3, 3, 3, 3, 3, 3, 3, 3, 3, 3, 3] := by kernel_rfl

set_option maxRecDepth 100000 in
theorem told (W : World) (args : Array Value) (ha : Args Try.prog W Try.f5.params.toList args.toList) :
    Calls Try.prog 5 args W fun e W' => e = .returned (.bool true) ∧ Below W.heap.size W W' := by
  rw [Try.params5] at ha
  refine jKw (by kernel_rfl) (fun rs hp hw => ?_) W args (fun p hp => by simp [zHz] at hp) ha
  · clear ha
    obtain ⟨v0, vs0, rfl, h0, hp⟩ := hp.cons
    obtain ⟨v1, vs1, rfl, h1, hp⟩ := hp.cons
    obtain ⟨v2, vs2, rfl, h2, hp⟩ := hp.cons
    obtain ⟨v3, vs3, rfl, h3, hp⟩ := hp.cons
    obtain rfl := hp.nil
    clear hw
    obtain ⟨rn, rxs, rfl, by_rxs, len_rxs, at_rxs⟩ := h0.slice Try.underlying45 lv_5
    obtain ⟨ds1, rfl, hl1, hd1⟩ := h1.many (by kernel_rfl) lv_26
    have g1_0 : zVH Try.prog 6 _ ds1 := ⟨hl1, hd1⟩
    obtain ⟨d1_0, ds1_0, rfl, e1_0, g1_1⟩ := g1_0.cons
    obtain ⟨sb, rfl⟩ := e1_0.int Try.underlying3
    obtain ⟨d1_1, ds1_1, rfl, e1_1, g1_2⟩ := g1_1.cons
    obtain ⟨sx, rfl⟩ := e1_1.int Try.underlying3
    obtain ⟨d1_2, ds1_2, rfl, e1_2, g1_3⟩ := g1_2.cons
    obtain ⟨sy, rfl⟩ := e1_2.int Try.underlying3
    obtain ⟨d1_3, ds1_3, rfl, e1_3, g1_4⟩ := g1_3.cons
    obtain ⟨sw, rfl⟩ := e1_3.int Try.underlying3
    obtain ⟨d1_4, ds1_4, rfl, e1_4, g1_5⟩ := g1_4.cons
    obtain ⟨sh, rfl⟩ := e1_4.int Try.underlying3
    obtain ⟨d1_5, ds1_5, rfl, e1_5, g1_6⟩ := g1_5.cons
    obtain ⟨stw, rfl⟩ := e1_5.int Try.underlying3
    obtain ⟨d1_6, ds1_6, rfl, e1_6, g1_7⟩ := g1_6.cons
    obtain ⟨sth, rfl⟩ := e1_6.int Try.underlying3
    obtain ⟨d1_7, ds1_7, rfl, e1_7, g1_8⟩ := g1_7.cons
    obtain ⟨son, soxs, rfl, by_soxs, len_soxs, at_soxs⟩ := e1_7.slice Try.underlying22 lv_3
    obtain ⟨d1_8, ds1_8, rfl, e1_8, g1_9⟩ := g1_8.cons
    obtain ⟨spn, spxs, rfl, by_spxs, len_spxs, at_spxs⟩ := e1_8.slice Try.underlying23 lv_72
    obtain ⟨d1_9, ds1_9, rfl, e1_9, g1_10⟩ := g1_9.cons
    obtain ⟨srn, srxs, rfl, by_srxs, len_srxs, at_srxs⟩ := e1_9.slice Try.underlying24 lv_75
    obtain rfl := g1_10.nil
    obtain ⟨at_, rfl⟩ := h2.one Try.underlying3
    obtain ⟨by_, rfl⟩ := h3.one Try.underlying3
    exact zXV rn rxs ⟨sb, sx, sy, sw, sh, stw, sth, son, soxs, spn, spxs, srn, srxs⟩ at_ by_ (jKW (by simpa using len_rxs) fun j d hj => by obtain ⟨t', a, q, b⟩ := at_rxs j d hj; exact zHv Try.underlying5 a b) ⟨(jKk (by simpa using len_soxs) fun j d hj => by obtain ⟨t', a, q, b⟩ := at_soxs j d hj; exact zHv Try.underlying3 a b), ((show Leaves Try.prog [3, 3, 3, 3, 68] spn spxs from ⟨len_spxs, at_spxs⟩).pics Try.underlying3 Try.underlying68 lv_129), ((show Leaves Try.prog [3, 3, 3, 3, 3, 3, 3, 3, 3, 3, 3] srn srxs from ⟨len_srxs, at_srxs⟩).raws Try.underlying3)⟩

set_option maxRecDepth 100000 in
theorem lifted (os : Os) (started : os.Started) (H : Type) (enc : TypeId × Value → H) :
    ReturnsInHanded {} Try.checked os 5 .any (Rows.scriptDecodeAgreesSpec.pre6 enc Try.prog Try.f5 Rows.scriptDecodeAgreesRow.domain false) (Rows.scriptDecodeAgreesSpec.post enc Try.prog Try.f5 false true false false) :=
  jJL (C := Try.checked) (tb := 4) closed.own started (by kernel_rfl) Try.func5
    (ChangeSpec.witness6 (enc := enc) (C := Try.checked) false ⟨#[], #[.slice none 0 0, .agg #[.int .i64 0, .int .i64 0, .int .i64 0, .int .i64 0, .int .i64 0, .int .i64 0, .int .i64 0, .slice none 0 0, .slice none 0 0, .slice none 0 0], .int .i64 0, .int .i64 0], []⟩ 8 (by kernel_rfl) (by kernel_rfl) (by kernel_rfl) (by kernel_rfl))
    (fun ds h => by
      rw [Try.params5] at h
      match ds, h with
      | [d0, d1, d2, d3], _ => rfl)
    rfl (by kernel_rfl) Try.underlying4 closed.laidOut
    (fun t ht => by
      have hall : (Try.f5.params.toList.all fun t => Try.prog.readableRec t && decide (t < Try.prog.types.size)) = true := by kernel_rfl
      have h2 := List.all_eq_true.1 hall t ht
      rw [Bool.and_eq_true] at h2
      exact ⟨h2.1, of_decide_eq_true h2.2⟩)
    told

theorem joined : joinedFacts Try.prog 5 Try.f5 Rows.scriptDecodeAgreesSpec Rows.scriptDecodeAgreesRow = true := by
  unfold joinedFacts
  simp only [Bool.and_eq_true]
  and_intros
  all_goals first
    | (with_reducible exact closed.laidOut)
    | (with_reducible exact closed.mapsRow)
    | (with_reducible exact closed.noStops)
    | (with_reducible exact closed.noKnobs)
    | (with_reducible exact closed.heard)
    | (with_reducible exact closed.enters)
    | (rw [closed.liftsNot]; kernel_rfl)
    | (rw [closed.made]; kernel_rfl)
    | (rw [closed.plain]; kernel_rfl)
    | kernel_rfl

theorem over : Rows.scriptDecodeAgreesRow.holds Try.pinned (OpenSpec.ofChange Rows.scriptDecodeAgreesSpec) :=
  OpenClaim.holds_of_wide 5 Try.f5 rfl rfl rfl rfl rfl rfl rfl ⟨rfl, rfl, rfl, rfl, rfl⟩ rfl rfl rfl rfl rfl (by kernel_rfl) Try.func5 joined
    (of_decide_eq_true (by kernel_rfl)) (by unfold Func.isWrapper; first | (rw [if_pos (by decide +kernel)]; kernel_rfl) | (rw [if_neg (by decide +kernel)]; exact ⟨rfl, rfl⟩))
    (fun os started H enc _ => lifted os started H enc)

/-- the statement -/
theorem proved : Rows.ScriptDecodeAgreesSaid := over
#print axioms proved
end Go.Proofs.Ytlnfgagmiogkgaa.scriptDecodeAgrees
