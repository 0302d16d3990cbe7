/-
  compositorlaw20.ValidateLargeCanvases answers true, whatever it is handed.
  For every input: no condition.
-/
import Derived.Test.YthlmmlcdoiahkaaDoorValidateLargeCanvasesZ4
import Derived.Test.YthlmmlcdoiahkaaDoorValidateLargeCanvasesZ2
import Derived.Test.YthlmmlcdoiahkaaDoorCards
import Derived.Test.YthlmmlcdoiahkaaDoorTie
import Derived.SevenTiedAt
namespace Go.Proofs.YthlmmlcdoiahkaaDoor.validateLargeCanvases
open Go.ChangeShapes Go.WideShapes Go.ChangeAt Go.RowKit
set_option linter.unusedVariables false
set_option linter.unusedSimpArgs false



set_option maxRecDepth 100000 in
theorem told (W : World) (args : Array Value) (hg : GlobOK W fun _ => True) (ha : Args Tryd.prog W Tryd.f9.params.toList args.toList) :
    Calls Tryd.prog 9 args W fun e W' => e = .returned (.bool true) ∧ Below W.heap.size W W' := by
  rw [Tryd.params9] at ha
  refine told_of (by kernel_rfl) (fun rs hp hw => ?_) W args hg ha
  · clear ha
    obtain ⟨v0, vs0, rfl, h0, hp⟩ := hp.cons
    obtain ⟨v1, vs1, rfl, h1, hp⟩ := hp.cons
    obtain ⟨v2, vs2, rfl, h2, hp⟩ := hp.cons
    obtain rfl := hp.nil
    clear hw
    obtain ⟨w, rfl⟩ := h0.one Tryd.underlying3
    obtain ⟨x, rfl⟩ := h1.one Tryd.underlying3
    obtain ⟨y, rfl⟩ := h2.one Tryd.underlying3
    exact L20_ValidateLargeCanvases_ans w x y 

set_option maxRecDepth 100000 in
theorem lifted (os : Os) (started : os.Started) (H : Type) (enc : TypeId × Value → H) :
    ReturnsInHanded {} Tryd.checked os 9 .any (fun w args => (Rows.validateLargeCanvasesSpec.pre enc Tryd.prog Tryd.f9 [] false w args ∧ laidMetH Tryd.prog laidL w) ∧ sizedMet enc Tryd.prog Tryd.f9 (OpenSpec.ofChange Rows.validateLargeCanvasesSpec) false w args) (Rows.validateLargeCanvasesSpec.post enc Tryd.prog Tryd.f9 false true false false) :=
  law_lift_laid (C := Tryd.checked) (tb := 4) (laid := laidL) closed.own started (by kernel_rfl) Tryd.func9
    (ChangeSpec.witness_shaped (enc := enc) (C := Tryd.checked) (os := os) (X := fun w _ => laidMetH Tryd.prog laidL w) false (World.doorLaid Tryd.prog 400 os) #[.int .i64 0, .int .i64 0, .int .i64 0] 8 rfl (World.shaped_of_RefB (by kernel_rfl) (by kernel_rfl)) (by kernel_rfl) (by kernel_rfl) (by kernel_rfl) (door_met os _))
    (fun ds h => by
      rw [Tryd.params9] at h
      match ds, h with
      | [d0, d1, d2], _ => rfl)
    rfl (by kernel_rfl) Tryd.underlying4 closed.laidOut
    (fun t ht => by
      have hall : (Tryd.f9.params.toList.all fun t => Tryd.prog.readableRec t && decide (t < Tryd.prog.types.size)) = true := by kernel_rfl
      have h2 := List.all_eq_true.1 hall t ht
      rw [Bool.and_eq_true] at h2
      exact ⟨h2.1, of_decide_eq_true h2.2⟩)
    laid_plain tab_ok told

theorem joined : joinedFacts Tryd.prog 9 Tryd.f9 Rows.validateLargeCanvasesSpec Rows.validateLargeCanvasesRow = true := by
  unfold joinedFacts
  simp only [Bool.and_eq_true]
  and_intros
  all_goals first
    | (with_reducible exact closed.laidOut)
    | (with_reducible exact closed.mapsRow)
    | (with_reducible exact closed.noStops)
    | (with_reducible exact closed.noKnobs)
    | (with_reducible exact closed.heard)
    | (with_reducible exact closed.enters)
    | (rw [closed.liftsNot]; kernel_rfl)
    | (rw [closed.made]; kernel_rfl)
    | (rw [closed.plain]; kernel_rfl)
    | kernel_rfl

theorem over : Rows.validateLargeCanvasesRow.holds Tryd.pinned (OpenSpec.ofChange Rows.validateLargeCanvasesSpec) :=
  OpenClaim.holds_of_wide 9 Tryd.f9 rfl rfl rfl rfl rfl rfl rfl ⟨rfl, rfl, rfl, rfl, rfl⟩ rfl rfl rfl rfl rfl (by kernel_rfl) Tryd.func9 joined
    (of_decide_eq_true (by kernel_rfl)) (by unfold Func.isWrapper; first | (rw [if_pos (by decide +kernel)]; kernel_rfl) | (rw [if_neg (by decide +kernel)]; exact ⟨rfl, rfl⟩))
    (fun os started H enc _ => lifted os started H enc)

set_option maxRecDepth 100000 in
/-- the statement: the tied card -/
theorem proved : Rows.ValidateLargeCanvasesCardSaid :=
  Claim7.holds_tied_plain_at .later [] [.data, .data] true (true, "77e4e6f0d6ff53d0c946e3f6da432425907ed346a72e6231f7ebf91634a634d1") false
    over (fun _ h => by cases h) (by kernel_rfl) (fun _ h => by cases h) validateLargeCanvases_row_tie rfl ⟨rfl, rfl⟩ (by kernel_rfl) rfl
    (fun f fn hf hfn => by
      obtain rfl : f = 9 := Option.some.inj ((show Tryd.prog.funcNamed "compositor/compositorlaw20.ValidateLargeCanvases" = some 9 by kernel_rfl).symm.trans hf) |>.symm
      obtain rfl : fn = Tryd.f9 := (Option.some.inj (Tryd.func9.symm.trans hfn)).symm
      exact ⟨by kernel_rfl, fun j t ht => by
        have hall : (Tryd.f9.params.toList.all fun u => !Tryd.prog.wantsStandIn u) = true := by kernel_rfl
        have hm : t ∈ Tryd.f9.params.toList := by simpa using Array.mem_of_getElem? ht
        exact (show Tryd.prog.wantsStandIn t = false by simpa using List.all_eq_true.1 hall t hm)⟩)
    (by kernel_rfl)
#print axioms proved
end Go.Proofs.YthlmmlcdoiahkaaDoor.validateLargeCanvases
