/-
  compositorlaw17.TileOrderRejects answers true, whatever it is handed.
  For every input: no condition.
-/
import Derived.Test.YtkmhedkpnfihkaaLw17TileOrderRejects
import Derived.Test.YtkmhedkpnfihkaaData
import Derived.Test.YtkmhedkpnfihkaaClosed
namespace Go.Proofs.Ytkmhedkpnfihkaa.tileOrderRejects
open Go.ChangeShapes Go.WideShapes Go.ChangeAt Go.RowKit
set_option linter.unusedVariables false
set_option linter.unusedSimpArgs false

theorem lv_3 : lv Try.prog 3 = some [3] := by kernel_rfl

set_option maxRecDepth 100000 in
theorem told (W : World) (args : Array Value) (ha : Args Try.prog W Try.f7.params.toList args.toList) :
    Calls Try.prog 7 args W fun e W' => e = .returned (.bool true) ∧ Below W.heap.size W W' := by
  rw [Try.params7] at ha
  refine told_of (by kernel_rfl) (fun rs hp hw => ?_) W args ha
  · clear ha
    obtain ⟨v0, vs0, rfl, h0, hp⟩ := hp.cons
    obtain ⟨v1, vs1, rfl, h1, hp⟩ := hp.cons
    obtain ⟨v2, vs2, rfl, h2, hp⟩ := hp.cons
    obtain ⟨v3, vs3, rfl, h3, hp⟩ := hp.cons
    obtain rfl := hp.nil
    clear hw
    obtain ⟨size, rfl⟩ := h0.one Try.underlying3
    obtain ⟨n, xs, rfl, by_xs, len_xs, at_xs⟩ := h1.slice Try.underlying43 lv_3
    obtain ⟨at_, rfl⟩ := h2.one Try.underlying3
    obtain ⟨v, rfl⟩ := h3.one Try.underlying3
    exact L17_TileOrderRejects_ans size n xs at_ v (isI_of (by simpa using len_xs) fun j d hj => by obtain ⟨t', a, q, b⟩ := at_xs j d hj; exact intLeaf1 Try.underlying3 a b) (by have h := by_xs; rw [show Try.prog.bytesOf 3 = 8 by kernel_rfl] at h; exact Nat.le_trans h (by decide))

set_option maxRecDepth 100000 in
theorem lifted (os : Os) (started : os.Started) (H : Type) (enc : TypeId × Value → H) :
    ReturnsInHanded {} Try.checked os 7 .any (Rows.tileOrderRejectsSpec.pre6 enc Try.prog Try.f7 Rows.tileOrderRejectsRow.domain false) (Rows.tileOrderRejectsSpec.post enc Try.prog Try.f7 false true false false) :=
  law_lift (C := Try.checked) (tb := 4) closed.own started (by kernel_rfl) Try.func7
    (ChangeSpec.witness6 (enc := enc) (C := Try.checked) false ⟨#[], #[.int .i64 0, .slice none 0 0, .int .i64 0, .int .i64 0], []⟩ 8 (by kernel_rfl) (by kernel_rfl) (by kernel_rfl) (by kernel_rfl))
    (fun ds h => by
      rw [Try.params7] at h
      match ds, h with
      | [d0, d1, d2, d3], _ => rfl)
    rfl (by kernel_rfl) Try.underlying4 closed.laidOut
    (fun t ht => by
      have hall : (Try.f7.params.toList.all fun t => Try.prog.readableRec t && decide (t < Try.prog.types.size)) = true := by kernel_rfl
      have h2 := List.all_eq_true.1 hall t ht
      rw [Bool.and_eq_true] at h2
      exact ⟨h2.1, of_decide_eq_true h2.2⟩)
    told

theorem joined : joinedFacts Try.prog 7 Try.f7 Rows.tileOrderRejectsSpec Rows.tileOrderRejectsRow = true := by
  unfold joinedFacts
  simp only [Bool.and_eq_true]
  and_intros
  all_goals first
    | (with_reducible exact closed.laidOut)
    | (with_reducible exact closed.mapsRow)
    | (with_reducible exact closed.noStops)
    | (with_reducible exact closed.noKnobs)
    | (with_reducible exact closed.heard)
    | (with_reducible exact closed.enters)
    | (rw [closed.liftsNot]; kernel_rfl)
    | (rw [closed.made]; kernel_rfl)
    | (rw [closed.plain]; kernel_rfl)
    | kernel_rfl

theorem over : Rows.tileOrderRejectsRow.holds Try.pinned (OpenSpec.ofChange Rows.tileOrderRejectsSpec) :=
  OpenClaim.holds_of_wide 7 Try.f7 rfl rfl rfl rfl rfl rfl rfl ⟨rfl, rfl, rfl, rfl, rfl⟩ rfl rfl rfl rfl rfl (by kernel_rfl) Try.func7 joined
    (of_decide_eq_true (by kernel_rfl)) (by unfold Func.isWrapper; first | (rw [if_pos (by decide +kernel)]; kernel_rfl) | (rw [if_neg (by decide +kernel)]; exact ⟨rfl, rfl⟩))
    (fun os started H enc _ => lifted os started H enc)

/-- the statement -/
theorem proved : Rows.TileOrderRejectsSaid := over
#print axioms proved
end Go.Proofs.Ytkmhedkpnfihkaa.tileOrderRejects
