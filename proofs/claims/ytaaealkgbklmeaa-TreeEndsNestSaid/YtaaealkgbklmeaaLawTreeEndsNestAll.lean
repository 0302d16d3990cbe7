/-
  compositorlaw21.TreeEndsNest answers true, whatever it is handed.
  For every input: no condition.
-/
import Derived.Test.YtaaealkgbklmeaaTreeEndsNestZ4
import Derived.Test.YtaaealkgbklmeaaTreeEndsNestZ3
namespace Go.Proofs.Ytaaealkgbklmeaa.treeEndsNest
open Go.ChangeShapes Go.WideShapes Go.ChangeAt Go.RowKit
set_option linter.unusedVariables false
set_option linter.unusedSimpArgs false

theorem lv_3 : lv Try.prog 3 = some [3] := by kernel_rfl

set_option maxRecDepth 100000 in
theorem told (W : World) (args : Array Value) (ha : Args Try.prog W Try.f6.params.toList args.toList) :
    Calls Try.prog 6 args W fun e W' => e = .returned (.bool true) ∧ Below W.heap.size W W' := by
  rw [Try.params6] at ha
  refine told_of (by kernel_rfl) (fun rs hp hw => ?_) W args (fun p hp => by simp [globTab] at hp) ha
  · clear ha
    obtain ⟨v0, vs0, rfl, h0, hp⟩ := hp.cons
    obtain ⟨v1, vs1, rfl, h1, hp⟩ := hp.cons
    obtain ⟨v2, vs2, rfl, h2, hp⟩ := hp.cons
    obtain rfl := hp.nil
    clear hw
    obtain ⟨pn, pxs, rfl, by_pxs, len_pxs, at_pxs⟩ := h0.slice Try.underlying22 lv_3
    obtain ⟨i, rfl⟩ := h1.one Try.underlying3
    obtain ⟨k, rfl⟩ := h2.one Try.underlying3
    exact L21_TreeEndsNest_ans pn pxs i k (isI_of (by simpa using len_pxs) fun j d hj => by obtain ⟨t', a, q, b⟩ := at_pxs j d hj; exact intLeaf1 Try.underlying3 a b)

set_option maxRecDepth 100000 in
theorem lifted (os : Os) (started : os.Started) (H : Type) (enc : TypeId × Value → H) :
    ReturnsInHanded {} Try.checked os 6 .any (Rows.treeEndsNestSpec.pre6 enc Try.prog Try.f6 Rows.treeEndsNestRow.domain false) (Rows.treeEndsNestSpec.post enc Try.prog Try.f6 false true false false) :=
  law_lift (C := Try.checked) (tb := 4) closed.own started (by kernel_rfl) Try.func6
    (ChangeSpec.witness6 (enc := enc) (C := Try.checked) false ⟨#[], #[.slice none 0 0, .int .i64 0, .int .i64 0], []⟩ 8 (by kernel_rfl) (by kernel_rfl) (by kernel_rfl) (by kernel_rfl))
    (fun ds h => by
      rw [Try.params6] at h
      match ds, h with
      | [d0, d1, d2], _ => rfl)
    rfl (by kernel_rfl) Try.underlying4 closed.laidOut
    (fun t ht => by
      have hall : (Try.f6.params.toList.all fun t => Try.prog.readableRec t && decide (t < Try.prog.types.size)) = true := by kernel_rfl
      have h2 := List.all_eq_true.1 hall t ht
      rw [Bool.and_eq_true] at h2
      exact ⟨h2.1, of_decide_eq_true h2.2⟩)
    told

theorem joined : joinedFacts Try.prog 6 Try.f6 Rows.treeEndsNestSpec Rows.treeEndsNestRow = true := by
  unfold joinedFacts
  simp only [Bool.and_eq_true]
  and_intros
  all_goals first
    | (with_reducible exact closed.laidOut)
    | (with_reducible exact closed.mapsRow)
    | (with_reducible exact closed.noStops)
    | (with_reducible exact closed.noKnobs)
    | (with_reducible exact closed.heard)
    | (with_reducible exact closed.enters)
    | (rw [closed.liftsNot]; kernel_rfl)
    | (rw [closed.made]; kernel_rfl)
    | (rw [closed.plain]; kernel_rfl)
    | kernel_rfl

theorem over : Rows.treeEndsNestRow.holds Try.pinned (OpenSpec.ofChange Rows.treeEndsNestSpec) :=
  OpenClaim.holds_of_wide 6 Try.f6 rfl rfl rfl rfl rfl rfl rfl ⟨rfl, rfl, rfl, rfl, rfl⟩ rfl rfl rfl rfl rfl (by kernel_rfl) Try.func6 joined
    (of_decide_eq_true (by kernel_rfl)) (by unfold Func.isWrapper; first | (rw [if_pos (by decide +kernel)]; kernel_rfl) | (rw [if_neg (by decide +kernel)]; exact ⟨rfl, rfl⟩))
    (fun os started H enc _ => lifted os started H enc)

/-- the statement -/
theorem proved : Rows.TreeEndsNestSaid := over
#print axioms proved
end Go.Proofs.Ytaaealkgbklmeaa.treeEndsNest
