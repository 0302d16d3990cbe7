/-
  compositorlaw20.ValidateContexts answers true, whatever it is handed.
  For every input: no condition.
-/
import Derived.Test.YthlmmlcdoiahkaaDoorValidateContextsZ5
import Derived.Test.YthlmmlcdoiahkaaDoorValidateContextsZ2
import Derived.Test.YthlmmlcdoiahkaaDoorCards
import Derived.Test.YthlmmlcdoiahkaaDoorTie
import Derived.SevenTiedAt
namespace Go.Proofs.YthlmmlcdoiahkaaDoor.validateContexts
open Go.ChangeShapes Go.WideShapes Go.ChangeAt Go.RowKit
set_option linter.unusedVariables false
set_option linter.unusedSimpArgs false

theorem lv_26 : lv Tryd.prog 26 = some [3, 3, 3, 3, 3, 3, 3, 22, 23, 24] := by kernel_rfl
theorem lv_3 : lv Tryd.prog 3 = some [3] := by kernel_rfl
theorem lv_72 : lv Tryd.prog 72 = some [3, 3, 3, 3, 68] := by kernel_rfl
theorem lv_109 : lv Tryd.prog 109 = some [3, 3, 3, 3, 3] := by kernel_rfl
theorem lv_75 : lv Tryd.prog 75 = some [3, 3, 3, 3, 3, 3, 3, 3, 3, 3, 3] := by kernel_rfl
theorem lv_4 : lv Tryd.prog 4 = some [4] := by kernel_rfl

set_option maxRecDepth 100000 in
theorem told (W : World) (args : Array Value) (hg : GlobOK W fun _ => True) (ha : Args Tryd.prog W Tryd.f6.params.toList args.toList) :
    Calls Tryd.prog 6 args W fun e W' => e = .returned (.bool true) ∧ Below W.heap.size W W' := by
  rw [Tryd.params6] at ha
  refine told_of (by kernel_rfl) (fun rs hp hw => ?_) W args hg ha
  · clear ha
    obtain ⟨v0, vs0, rfl, h0, hp⟩ := hp.cons
    obtain ⟨v1, vs1, rfl, h1, hp⟩ := hp.cons
    obtain ⟨v2, vs2, rfl, h2, hp⟩ := hp.cons
    obtain ⟨v3, vs3, rfl, h3, hp⟩ := hp.cons
    obtain rfl := hp.nil
    clear hw
    obtain ⟨ds0, rfl, hl0, hd0⟩ := h0.many (by kernel_rfl) lv_26
    have g0_0 : LeavesD Tryd.prog 6 _ ds0 := ⟨hl0, hd0⟩
    obtain ⟨d0_0, ds0_0, rfl, e0_0, g0_1⟩ := g0_0.cons
    obtain ⟨sb, rfl⟩ := e0_0.int Tryd.underlying3
    obtain ⟨d0_1, ds0_1, rfl, e0_1, g0_2⟩ := g0_1.cons
    obtain ⟨sx, rfl⟩ := e0_1.int Tryd.underlying3
    obtain ⟨d0_2, ds0_2, rfl, e0_2, g0_3⟩ := g0_2.cons
    obtain ⟨sy, rfl⟩ := e0_2.int Tryd.underlying3
    obtain ⟨d0_3, ds0_3, rfl, e0_3, g0_4⟩ := g0_3.cons
    obtain ⟨sw, rfl⟩ := e0_3.int Tryd.underlying3
    obtain ⟨d0_4, ds0_4, rfl, e0_4, g0_5⟩ := g0_4.cons
    obtain ⟨sh, rfl⟩ := e0_4.int Tryd.underlying3
    obtain ⟨d0_5, ds0_5, rfl, e0_5, g0_6⟩ := g0_5.cons
    obtain ⟨stw, rfl⟩ := e0_5.int Tryd.underlying3
    obtain ⟨d0_6, ds0_6, rfl, e0_6, g0_7⟩ := g0_6.cons
    obtain ⟨sth, rfl⟩ := e0_6.int Tryd.underlying3
    obtain ⟨d0_7, ds0_7, rfl, e0_7, g0_8⟩ := g0_7.cons
    obtain ⟨son, soxs, rfl, by_soxs, len_soxs, at_soxs⟩ := e0_7.slice Tryd.underlying22 lv_3
    obtain ⟨d0_8, ds0_8, rfl, e0_8, g0_9⟩ := g0_8.cons
    obtain ⟨spn, spxs, rfl, by_spxs, len_spxs, at_spxs⟩ := e0_8.slice Tryd.underlying23 lv_72
    obtain ⟨d0_9, ds0_9, rfl, e0_9, g0_10⟩ := g0_9.cons
    obtain ⟨srn, srxs, rfl, by_srxs, len_srxs, at_srxs⟩ := e0_9.slice Tryd.underlying24 lv_75
    obtain rfl := g0_10.nil
    obtain ⟨oper, rfl⟩ := h1.one Tryd.underlying3
    obtain ⟨fn_, fxs, rfl, by_fxs, len_fxs, at_fxs⟩ := h2.slice Tryd.underlying58 lv_4
    obtain ⟨push, rfl⟩ := h3.oneB Tryd.underlying4
    exact L20_ValidateContexts_ans ⟨sb, sx, sy, sw, sh, stw, sth, son, soxs, spn, spxs, srn, srxs⟩ oper fn_ fxs push ⟨(isI_of (by simpa using len_soxs) fun j d hj => by obtain ⟨t', a, q, b⟩ := at_soxs j d hj; exact intLeaf1 Tryd.underlying3 a b), ((show Leaves Tryd.prog [3, 3, 3, 3, 68] spn spxs from ⟨len_spxs, at_spxs⟩).pics Tryd.underlying3 Tryd.underlying68 lv_109), ((show Leaves Tryd.prog [3, 3, 3, 3, 3, 3, 3, 3, 3, 3, 3] srn srxs from ⟨len_srxs, at_srxs⟩).raws Tryd.underlying3)⟩ ((show Leaves Tryd.prog [4] fn_ fxs from ⟨len_fxs, at_fxs⟩).bools Tryd.underlying4)

set_option maxRecDepth 100000 in
theorem lifted (os : Os) (started : os.Started) (H : Type) (enc : TypeId × Value → H) :
    ReturnsInHanded {} Tryd.checked os 6 .any (fun w args => (Rows.validateContextsSpec.pre enc Tryd.prog Tryd.f6 [] false w args ∧ laidMetH Tryd.prog laidL w) ∧ sizedMet enc Tryd.prog Tryd.f6 (OpenSpec.ofChange Rows.validateContextsSpec) false w args) (Rows.validateContextsSpec.post enc Tryd.prog Tryd.f6 false true false false) :=
  law_lift_laid (C := Tryd.checked) (tb := 4) (laid := laidL) closed.own started (by kernel_rfl) Tryd.func6
    (ChangeSpec.witness_shaped (enc := enc) (C := Tryd.checked) (os := os) (X := fun w _ => laidMetH Tryd.prog laidL w) false (World.doorLaid Tryd.prog 400 os) #[.agg #[.int .i64 0, .int .i64 0, .int .i64 0, .int .i64 0, .int .i64 0, .int .i64 0, .int .i64 0, .slice none 0 0, .slice none 0 0, .slice none 0 0], .int .i64 0, .slice none 0 0, .bool false] 8 rfl (World.shaped_of_RefB (by kernel_rfl) (by kernel_rfl)) (by kernel_rfl) (by kernel_rfl) (by kernel_rfl) (door_met os _))
    (fun ds h => by
      rw [Tryd.params6] at h
      match ds, h with
      | [d0, d1, d2, d3], _ => rfl)
    rfl (by kernel_rfl) Tryd.underlying4 closed.laidOut
    (fun t ht => by
      have hall : (Tryd.f6.params.toList.all fun t => Tryd.prog.readableRec t && decide (t < Tryd.prog.types.size)) = true := by kernel_rfl
      have h2 := List.all_eq_true.1 hall t ht
      rw [Bool.and_eq_true] at h2
      exact ⟨h2.1, of_decide_eq_true h2.2⟩)
    laid_plain tab_ok told

theorem joined : joinedFacts Tryd.prog 6 Tryd.f6 Rows.validateContextsSpec Rows.validateContextsRow = true := by
  unfold joinedFacts
  simp only [Bool.and_eq_true]
  and_intros
  all_goals first
    | (with_reducible exact closed.laidOut)
    | (with_reducible exact closed.mapsRow)
    | (with_reducible exact closed.noStops)
    | (with_reducible exact closed.noKnobs)
    | (with_reducible exact closed.heard)
    | (with_reducible exact closed.enters)
    | (rw [closed.liftsNot]; kernel_rfl)
    | (rw [closed.made]; kernel_rfl)
    | (rw [closed.plain]; kernel_rfl)
    | kernel_rfl

theorem over : Rows.validateContextsRow.holds Tryd.pinned (OpenSpec.ofChange Rows.validateContextsSpec) :=
  OpenClaim.holds_of_wide 6 Tryd.f6 rfl rfl rfl rfl rfl rfl rfl ⟨rfl, rfl, rfl, rfl, rfl⟩ rfl rfl rfl rfl rfl (by kernel_rfl) Tryd.func6 joined
    (of_decide_eq_true (by kernel_rfl)) (by unfold Func.isWrapper; first | (rw [if_pos (by decide +kernel)]; kernel_rfl) | (rw [if_neg (by decide +kernel)]; exact ⟨rfl, rfl⟩))
    (fun os started H enc _ => lifted os started H enc)

set_option maxRecDepth 100000 in
/-- the statement: the tied card -/
theorem proved : Rows.ValidateContextsCardSaid :=
  Claim7.holds_tied_plain_at .later [] [.data, .data] true (true, "77e4e6f0d6ff53d0c946e3f6da432425907ed346a72e6231f7ebf91634a634d1") false
    over (fun _ h => by cases h) (by kernel_rfl) (fun _ h => by cases h) validateContexts_row_tie rfl ⟨rfl, rfl⟩ (by kernel_rfl) rfl
    (fun f fn hf hfn => by
      obtain rfl : f = 6 := Option.some.inj ((show Tryd.prog.funcNamed "compositor/compositorlaw20.ValidateContexts" = some 6 by kernel_rfl).symm.trans hf) |>.symm
      obtain rfl : fn = Tryd.f6 := (Option.some.inj (Tryd.func6.symm.trans hfn)).symm
      exact ⟨by kernel_rfl, fun j t ht => by
        have hall : (Tryd.f6.params.toList.all fun u => !Tryd.prog.wantsStandIn u) = true := by kernel_rfl
        have hm : t ∈ Tryd.f6.params.toList := by simpa using Array.mem_of_getElem? ht
        exact (show Tryd.prog.wantsStandIn t = false by simpa using List.all_eq_true.1 hall t hm)⟩)
    (by kernel_rfl)
#print axioms proved
end Go.Proofs.YthlmmlcdoiahkaaDoor.validateContexts
