/-
  compositorlaw19.TextParseAgrees answers true, whatever it is handed.
  For every input of small bulk.
-/
import Derived.Test.YtheidkkebdhmkaaGreatDoorTextParseAgreesUptoZ5
import Derived.Test.YtheidkkebdhmkaaGreatDoorTextParseAgreesUptoZ3
import Derived.Test.YtheidkkebdhmkaaGreatDoorTextParseAgreesUptoZ6
import Derived.Test.YtheidkkebdhmkaaGreatDoorCards
import Derived.Test.YtheidkkebdhmkaaGreatDoorTie
import Derived.SevenTiedAt
namespace Go.Proofs.YtheidkkebdhmkaaGreatDoor.textParseAgreesUpto
open Go.ChangeShapes Go.WideShapes Go.ChangeAt Go.RowKit
set_option linter.unusedVariables false
set_option linter.unusedSimpArgs false



set_option maxRecDepth 100000 in
theorem told (W : World) (args : Array Value) (hg : zXF W fun _ => True) (ha : Args Tryz.prog W Tryz.f6.params.toList args.toList) (hs : jZu Tryz.prog Tryz.f6.params.toList args.toList) :
    Calls Tryz.prog 6 args W fun e W' => e = .returned (.bool true) ∧ Below W.heap.size W W' := by
  rw [Tryz.params6] at ha hs
  refine jZx (by kernel_rfl) (fun rs hp hw hB => ?_) W args hg ha hs
  · clear ha hs
    obtain ⟨v0, vs0, rfl, h0, hp⟩ := hp.cons
    obtain rfl := hp.nil
    clear hw
    obtain ⟨ms, rfl⟩ := h0.oneS Tryz.underlying9
    exact zY0 (ofS ms) (show (ofS ms).length ≤ 1048576 from hB 0 9 ms rfl Tryz.underlying9 rfl)

set_option maxRecDepth 100000 in
theorem lifted (os : Os) (started : os.Started) (H : Type) (enc : TypeId × Value → H) (Fi : Stop.Interp) :
    ReturnsInHanded {} Tryz.checked os 6 .any ((Rows.OpenSpec.upto Rows.textParseAgreesSpec).preRow enc Tryz.prog Tryz.f6 Rows.textParseAgreesUptoRow.domain false Rows.textParseAgreesUptoRow.laid) (((Rows.OpenSpec.upto Rows.textParseAgreesSpec).at Fi).post enc Tryz.prog Tryz.f6 false true false false) := by
  have hx : (DataW.whole enc Tryz.prog ((World.laidAll Tryz.prog os zHp).forCall (fun _ _ => 0) ⟨#[], #[.string "".toUTF8], []⟩).memory Tryz.f6.params.toList Rows.textParseAgreesSpec.vars false (#[.string "".toUTF8] : Array Value).toList 8).any (fun x => Rows.uptoSmall H (x.1 ++ x.2.1)) = true := by kernel_rfl
  obtain ⟨x, hx, hk⟩ := (Option.any_eq_true _ _).1 hx
  exact zGp (C := Tryz.checked) (tb := 4) (laid := zHp) closed.own started (by kernel_rfl) Tryz.func6
    (zGO (enc := enc) (C := Tryz.checked) (s := Rows.OpenSpec.upto Rows.textParseAgreesSpec) (World.laidAll Tryz.prog os zHp) #[.string "".toUTF8] (World.laidAll_os _ _ _) (World.shaped_of_ZipB (by kernel_rfl) (by kernel_rfl)) (by kernel_rfl)
      (OpenSpec.preRow_of_cond 8 hx (by kernel_rfl) (fun k e => by cases e; exact hk) (by kernel_rfl) (jJt os _)))
    (fun ds h => by
      rw [Tryz.params6] at h
      match ds, h with
      | [d0], _ => rfl)
    rfl (by kernel_rfl) Tryz.underlying4 closed.laidOut
    (fun t ht => by
      have hall : (Tryz.f6.params.toList.all fun t => Tryz.prog.readableRec t && decide (t < Tryz.prog.types.size)) = true := by kernel_rfl
      have h2 := List.all_eq_true.1 hall t ht
      rw [Bool.and_eq_true] at h2
      exact ⟨h2.1, of_decide_eq_true h2.2⟩)
    zUJ jK3 jKf jKH told

theorem joined : joinedFacts Tryz.prog 6 Tryz.f6 (Rows.OpenSpec.upto Rows.textParseAgreesSpec).bare Rows.textParseAgreesUptoRow = true := by
  unfold joinedFacts
  simp only [Bool.and_eq_true]
  and_intros
  all_goals first
    | (with_reducible exact closed.laidOut)
    | (with_reducible exact closed.mapsRow)
    | (with_reducible exact closed.noStops)
    | (with_reducible exact closed.noKnobs)
    | (with_reducible exact closed.heard)
    | (with_reducible exact closed.enters)
    | (rw [closed.liftsNot]; kernel_rfl)
    | (rw [closed.made]; kernel_rfl)
    | (rw [closed.plain]; kernel_rfl)
    | kernel_rfl

theorem over : Rows.TextParseAgreesUptoSaid :=
  OpenClaim.holds_of_cond 6 Tryz.f6 rfl rfl rfl rfl rfl rfl rfl ⟨rfl, rfl, rfl, rfl, rfl⟩ rfl rfl rfl rfl rfl (by kernel_rfl) Tryz.func6 joined
    (of_decide_eq_true (by kernel_rfl)) (by unfold Func.isWrapper; first | (rw [if_pos (by decide +kernel)]; kernel_rfl) | (rw [if_neg (by decide +kernel)]; exact ⟨rfl, rfl⟩))
    (fun os started H enc _ Fi => by rw [OpenClaim.pre_eq_preRow]; exact lifted os started H enc Fi)

set_option maxRecDepth 100000 in
/-- the statement: the tied card -/
theorem proved : Rows.TextParseAgreesUptoCardSaid :=
  Claim7.holds_tied_plain_at .later [] [.data, .data, .data, .data, .data, .data, .sentinel, .sentinel, .pinned] true (true, "efeb7ff7d0dad67460b2511a4add4e2ed624acc7f88cd160b404140ed2932009") true
    over (fun _ h => by cases h) (by kernel_rfl) (fun _ h => by cases h) textParseAgreesUpto_row_tie rfl ⟨rfl, rfl⟩ (by kernel_rfl) rfl
    (fun f fn hf hfn => by
      obtain rfl : f = 6 := Option.some.inj ((show Tryz.prog.funcNamed "compositor/compositorlaw19.TextParseAgrees" = some 6 by kernel_rfl).symm.trans hf) |>.symm
      obtain rfl : fn = Tryz.f6 := (Option.some.inj (Tryz.func6.symm.trans hfn)).symm
      exact ⟨by kernel_rfl, fun j t ht => by
        have hall : (Tryz.f6.params.toList.all fun u => !Tryz.prog.wantsStandIn u) = true := by kernel_rfl
        have hm : t ∈ Tryz.f6.params.toList := by simpa using Array.mem_of_getElem? ht
        exact (show Tryz.prog.wantsStandIn t = false by simpa using List.all_eq_true.1 hall t hm)⟩)
    (by kernel_rfl)
#print axioms proved
end Go.Proofs.YtheidkkebdhmkaaGreatDoor.textParseAgreesUpto
