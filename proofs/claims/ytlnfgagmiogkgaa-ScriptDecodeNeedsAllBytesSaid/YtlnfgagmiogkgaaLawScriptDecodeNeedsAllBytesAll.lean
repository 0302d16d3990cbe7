/-
  compositorlaw18.ScriptDecodeNeedsAllBytes answers true, whatever it is handed.
  For every input: no condition.
-/
import Derived.Test.YtlnfgagmiogkgaaScriptDecodeNeedsAllBytesZ6
import Derived.Test.YtlnfgagmiogkgaaScriptDecodeNeedsAllBytesZ2
namespace Go.Proofs.Ytlnfgagmiogkgaa.scriptDecodeNeedsAllBytes
open Go.ChangeShapes Go.WideShapes Go.ChangeAt Go.RowKit
set_option linter.unusedVariables false
set_option linter.unusedSimpArgs false

theorem lv_26 : lv Try.prog 26 = some [3, 3, 3, 3, 3, 3, 3, 22, 23, 24] := by kernel_rfl
theorem lv_3 : lv Try.prog 3 = some [3] := by kernel_rfl
theorem lv_72 : lv Try.prog 72 = some [3, 3, 3, 3, 68] := by kernel_rfl
theorem lv_129 : lv Try.prog 129 = some [3, 3, 3, 3, 3] := by kernel_rfl
theorem lv_75 : lv Try.prog 75 = some [3, 3, 3, 3, 3, 3, 3, 3, 3, 3, 3] := by kernel_rfl
theorem lv_5 : lv Try.prog 5 = some [5] := by kernel_rfl

set_option maxRecDepth 100000 in
theorem told (W : World) (args : Array Value) (ha : Args Try.prog W Try.f6.params.toList args.toList) :
    Calls Try.prog 6 args W fun e W' => e = .returned (.bool true) ∧ Below W.heap.size W W' := by
  rw [Try.params6] at ha
  refine told_of (by kernel_rfl) (fun rs hp hw => ?_) W args (fun p hp => by simp [globTab] at hp) ha
  · clear ha
    obtain ⟨v0, vs0, rfl, h0, hp⟩ := hp.cons
    obtain ⟨v1, vs1, rfl, h1, hp⟩ := hp.cons
    obtain ⟨v2, vs2, rfl, h2, hp⟩ := hp.cons
    obtain rfl := hp.nil
    clear hw
    obtain ⟨ds0, rfl, hl0, hd0⟩ := h0.many (by kernel_rfl) lv_26
    have g0_0 : LeavesD Try.prog 6 _ ds0 := ⟨hl0, hd0⟩
    obtain ⟨d0_0, ds0_0, rfl, e0_0, g0_1⟩ := g0_0.cons
    obtain ⟨sb, rfl⟩ := e0_0.int Try.underlying3
    obtain ⟨d0_1, ds0_1, rfl, e0_1, g0_2⟩ := g0_1.cons
    obtain ⟨sx, rfl⟩ := e0_1.int Try.underlying3
    obtain ⟨d0_2, ds0_2, rfl, e0_2, g0_3⟩ := g0_2.cons
    obtain ⟨sy, rfl⟩ := e0_2.int Try.underlying3
    obtain ⟨d0_3, ds0_3, rfl, e0_3, g0_4⟩ := g0_3.cons
    obtain ⟨sw, rfl⟩ := e0_3.int Try.underlying3
    obtain ⟨d0_4, ds0_4, rfl, e0_4, g0_5⟩ := g0_4.cons
    obtain ⟨sh, rfl⟩ := e0_4.int Try.underlying3
    obtain ⟨d0_5, ds0_5, rfl, e0_5, g0_6⟩ := g0_5.cons
    obtain ⟨stw, rfl⟩ := e0_5.int Try.underlying3
    obtain ⟨d0_6, ds0_6, rfl, e0_6, g0_7⟩ := g0_6.cons
    obtain ⟨sth, rfl⟩ := e0_6.int Try.underlying3
    obtain ⟨d0_7, ds0_7, rfl, e0_7, g0_8⟩ := g0_7.cons
    obtain ⟨son, soxs, rfl, by_soxs, len_soxs, at_soxs⟩ := e0_7.slice Try.underlying22 lv_3
    obtain ⟨d0_8, ds0_8, rfl, e0_8, g0_9⟩ := g0_8.cons
    obtain ⟨spn, spxs, rfl, by_spxs, len_spxs, at_spxs⟩ := e0_8.slice Try.underlying23 lv_72
    obtain ⟨d0_9, ds0_9, rfl, e0_9, g0_10⟩ := g0_9.cons
    obtain ⟨srn, srxs, rfl, by_srxs, len_srxs, at_srxs⟩ := e0_9.slice Try.underlying24 lv_75
    obtain rfl := g0_10.nil
    obtain ⟨at_, rfl⟩ := h1.one Try.underlying3
    obtain ⟨mn, mxs, rfl, by_mxs, len_mxs, at_mxs⟩ := h2.slice Try.underlying45 lv_5
    exact L18_ScriptDecodeNeedsAllBytes_ans ⟨sb, sx, sy, sw, sh, stw, sth, son, soxs, spn, spxs, srn, srxs⟩ at_ mn mxs ⟨(isI_of (by simpa using len_soxs) fun j d hj => by obtain ⟨t', a, q, b⟩ := at_soxs j d hj; exact intLeaf1 Try.underlying3 a b), ((show Leaves Try.prog [3, 3, 3, 3, 68] spn spxs from ⟨len_spxs, at_spxs⟩).pics Try.underlying3 Try.underlying68 lv_129), ((show Leaves Try.prog [3, 3, 3, 3, 3, 3, 3, 3, 3, 3, 3] srn srxs from ⟨len_srxs, at_srxs⟩).raws Try.underlying3)⟩ (isB8_of (by simpa using len_mxs) fun j d hj => by obtain ⟨t', a, q, b⟩ := at_mxs j d hj; exact intLeaf1 Try.underlying5 a b) (by have h := by_mxs; rw [show Try.prog.bytesOf 5 = 1 by kernel_rfl] at h; exact Nat.le_trans h (by decide))

set_option maxRecDepth 100000 in
theorem lifted (os : Os) (started : os.Started) (H : Type) (enc : TypeId × Value → H) :
    ReturnsInHanded {} Try.checked os 6 .any (Rows.scriptDecodeNeedsAllBytesSpec.pre6 enc Try.prog Try.f6 Rows.scriptDecodeNeedsAllBytesRow.domain false) (Rows.scriptDecodeNeedsAllBytesSpec.post enc Try.prog Try.f6 false true false false) :=
  law_lift (C := Try.checked) (tb := 4) closed.own started (by kernel_rfl) Try.func6
    (ChangeSpec.witness6 (enc := enc) (C := Try.checked) false ⟨#[], #[.agg #[.int .i64 0, .int .i64 0, .int .i64 0, .int .i64 0, .int .i64 0, .int .i64 0, .int .i64 0, .slice none 0 0, .slice none 0 0, .slice none 0 0], .int .i64 0, .slice none 0 0], []⟩ 8 (by kernel_rfl) (by kernel_rfl) (by kernel_rfl) (by kernel_rfl))
    (fun ds h => by
      rw [Try.params6] at h
      match ds, h with
      | [d0, d1, d2], _ => rfl)
    rfl (by kernel_rfl) Try.underlying4 closed.laidOut
    (fun t ht => by
      have hall : (Try.f6.params.toList.all fun t => Try.prog.readableRec t && decide (t < Try.prog.types.size)) = true := by kernel_rfl
      have h2 := List.all_eq_true.1 hall t ht
      rw [Bool.and_eq_true] at h2
      exact ⟨h2.1, of_decide_eq_true h2.2⟩)
    told

theorem joined : joinedFacts Try.prog 6 Try.f6 Rows.scriptDecodeNeedsAllBytesSpec Rows.scriptDecodeNeedsAllBytesRow = true := by
  unfold joinedFacts
  simp only [Bool.and_eq_true]
  and_intros
  all_goals first
    | (with_reducible exact closed.laidOut)
    | (with_reducible exact closed.mapsRow)
    | (with_reducible exact closed.noStops)
    | (with_reducible exact closed.noKnobs)
    | (with_reducible exact closed.heard)
    | (with_reducible exact closed.enters)
    | (rw [closed.liftsNot]; kernel_rfl)
    | (rw [closed.made]; kernel_rfl)
    | (rw [closed.plain]; kernel_rfl)
    | kernel_rfl

theorem over : Rows.scriptDecodeNeedsAllBytesRow.holds Try.pinned (OpenSpec.ofChange Rows.scriptDecodeNeedsAllBytesSpec) :=
  OpenClaim.holds_of_wide 6 Try.f6 rfl rfl rfl rfl rfl rfl rfl ⟨rfl, rfl, rfl, rfl, rfl⟩ rfl rfl rfl rfl rfl (by kernel_rfl) Try.func6 joined
    (of_decide_eq_true (by kernel_rfl)) (by unfold Func.isWrapper; first | (rw [if_pos (by decide +kernel)]; kernel_rfl) | (rw [if_neg (by decide +kernel)]; exact ⟨rfl, rfl⟩))
    (fun os started H enc _ => lifted os started H enc)

/-- the statement -/
theorem proved : Rows.ScriptDecodeNeedsAllBytesSaid := over
#print axioms proved
end Go.Proofs.Ytlnfgagmiogkgaa.scriptDecodeNeedsAllBytes
