/-
  compositortop.TopAnyOrderOfRules answers true, whatever it is handed.
  For every input: no condition.
-/
import Derived.Test.YtbnmadpcdlnleaaGreatDoorTopAnyOrderOfRulesZ7
import Derived.Test.YtbnmadpcdlnleaaGreatDoorCards
import Derived.Test.YtbnmadpcdlnleaaGreatDoorTie
namespace Go.Proofs.YtbnmadpcdlnleaaGreatDoor.topAnyOrderOfRules
open Go.ChangeShapes Go.WideShapes Go.ChangeAt Go.RowKit
set_option linter.unusedVariables false
set_option linter.unusedSimpArgs false

theorem lv_26 : lv Tryz.prog 26 = some [3, 3, 3, 3, 3, 3, 3, 22, 23, 24] := by kernel_rfl
theorem lv_3 : lv Tryz.prog 3 = some [3] := by kernel_rfl
theorem lv_100 : lv Tryz.prog 100 = some [3, 3, 3, 3, 96] := by kernel_rfl
theorem lv_176 : lv Tryz.prog 176 = some [3, 3, 3, 3, 3] := by kernel_rfl
theorem lv_57 : lv Tryz.prog 57 = some [3, 3, 3, 3, 3, 3, 3, 3, 3, 3, 3] := by kernel_rfl

set_option maxRecDepth 100000 in
theorem told (W : World) (args : Array Value) (hg : zJR W fun _ => True) (ha : Args Tryz.prog W Tryz.f6.params.toList args.toList) :
    Calls Tryz.prog 6 args W fun e W' => e = .returned (.bool true) ∧ Below W.heap.size W W' := by
  rw [Tryz.params6] at ha
  refine yZH (by kernel_rfl) (fun rs hp hw => ?_) W args hg ha
  · clear ha
    obtain ⟨v0, vs0, rfl, h0, hp⟩ := hp.cons
    obtain ⟨v1, vs1, rfl, h1, hp⟩ := hp.cons
    obtain ⟨v2, vs2, rfl, h2, hp⟩ := hp.cons
    obtain rfl := hp.nil
    clear hw
    obtain ⟨ds0, rfl, hl0, hd0⟩ := h0.many (by kernel_rfl) lv_26
    have g0_0 : zG2 Tryz.prog 6 _ ds0 := ⟨hl0, hd0⟩
    obtain ⟨d0_0, ds0_0, rfl, e0_0, g0_1⟩ := g0_0.cons
    obtain ⟨sb, rfl⟩ := e0_0.int Tryz.underlying3
    obtain ⟨d0_1, ds0_1, rfl, e0_1, g0_2⟩ := g0_1.cons
    obtain ⟨sx, rfl⟩ := e0_1.int Tryz.underlying3
    obtain ⟨d0_2, ds0_2, rfl, e0_2, g0_3⟩ := g0_2.cons
    obtain ⟨sy, rfl⟩ := e0_2.int Tryz.underlying3
    obtain ⟨d0_3, ds0_3, rfl, e0_3, g0_4⟩ := g0_3.cons
    obtain ⟨sw, rfl⟩ := e0_3.int Tryz.underlying3
    obtain ⟨d0_4, ds0_4, rfl, e0_4, g0_5⟩ := g0_4.cons
    obtain ⟨sh, rfl⟩ := e0_4.int Tryz.underlying3
    obtain ⟨d0_5, ds0_5, rfl, e0_5, g0_6⟩ := g0_5.cons
    obtain ⟨stw, rfl⟩ := e0_5.int Tryz.underlying3
    obtain ⟨d0_6, ds0_6, rfl, e0_6, g0_7⟩ := g0_6.cons
    obtain ⟨sth, rfl⟩ := e0_6.int Tryz.underlying3
    obtain ⟨d0_7, ds0_7, rfl, e0_7, g0_8⟩ := g0_7.cons
    obtain ⟨son, soxs, rfl, by_soxs, len_soxs, at_soxs⟩ := e0_7.slice Tryz.underlying22 lv_3
    obtain ⟨d0_8, ds0_8, rfl, e0_8, g0_9⟩ := g0_8.cons
    obtain ⟨spn, spxs, rfl, by_spxs, len_spxs, at_spxs⟩ := e0_8.slice Tryz.underlying23 lv_100
    obtain ⟨d0_9, ds0_9, rfl, e0_9, g0_10⟩ := g0_9.cons
    obtain ⟨srn, srxs, rfl, by_srxs, len_srxs, at_srxs⟩ := e0_9.slice Tryz.underlying24 lv_57
    obtain rfl := g0_10.nil
    obtain ⟨ln, lxs, rfl, by_lxs, len_lxs, at_lxs⟩ := h1.slice Tryz.underlying22 lv_3
    obtain ⟨qn, qxs, rfl, by_qxs, len_qxs, at_qxs⟩ := h2.slice Tryz.underlying22 lv_3
    exact zYb ⟨sb, sx, sy, sw, sh, stw, sth, son, soxs, spn, spxs, srn, srxs⟩ ln lxs qn qxs ⟨(jWR (by simpa using len_soxs) fun j d hj => by obtain ⟨t', a, q, b⟩ := at_soxs j d hj; exact zHR Tryz.underlying3 a b), ((show zXQ Tryz.prog [3, 3, 3, 3, 96] spn spxs from ⟨len_spxs, at_spxs⟩).pics Tryz.underlying3 Tryz.underlying96 lv_176), ((show zXQ Tryz.prog [3, 3, 3, 3, 3, 3, 3, 3, 3, 3, 3] srn srxs from ⟨len_srxs, at_srxs⟩).raws Tryz.underlying3)⟩ (jWR (by simpa using len_lxs) fun j d hj => by obtain ⟨t', a, q, b⟩ := at_lxs j d hj; exact zHR Tryz.underlying3 a b) (jWR (by simpa using len_qxs) fun j d hj => by obtain ⟨t', a, q, b⟩ := at_qxs j d hj; exact zHR Tryz.underlying3 a b)

set_option maxRecDepth 100000 in
theorem lifted (os : Os) (started : os.Started) (H : Type) (enc : TypeId × Value → H) :
    ReturnsInHanded {} Tryz.checked os 6 .any (fun w args => (Rows.topAnyOrderOfRulesSpec.pre enc Tryz.prog Tryz.f6 [] false w args ∧ laidMetH Tryz.prog jVS w) ∧ sizedMet enc Tryz.prog Tryz.f6 (OpenSpec.ofChange Rows.topAnyOrderOfRulesSpec) false w args) (Rows.topAnyOrderOfRulesSpec.post enc Tryz.prog Tryz.f6 false true false false) :=
  jYx (C := Tryz.checked) (tb := 4) (laid := jVS) closed.own started (by kernel_rfl) Tryz.func6
    (ChangeSpec.witness_shaped (enc := enc) (C := Tryz.checked) (os := os) (X := fun w _ => laidMetH Tryz.prog jVS w) false (World.doorLaid Tryz.prog 400 os) #[.agg #[.int .i64 0, .int .i64 0, .int .i64 0, .int .i64 0, .int .i64 0, .int .i64 0, .int .i64 0, .slice none 0 0, .slice none 0 0, .slice none 0 0], .slice none 0 0, .slice none 0 0] 8 rfl (World.shaped_of_RefB (by kernel_rfl) (by kernel_rfl)) (by kernel_rfl) (by kernel_rfl) (by kernel_rfl) (yQ8 os _))
    (fun ds h => by
      rw [Tryz.params6] at h
      match ds, h with
      | [d0, d1, d2], _ => rfl)
    rfl (by kernel_rfl) Tryz.underlying4 closed.laidOut
    (fun t ht => by
      have hall : (Tryz.f6.params.toList.all fun t => Tryz.prog.readableRec t && decide (t < Tryz.prog.types.size)) = true := by kernel_rfl
      have h2 := List.all_eq_true.1 hall t ht
      rw [Bool.and_eq_true] at h2
      exact ⟨h2.1, of_decide_eq_true h2.2⟩)
    jUM yXN yZN yZ8 told

theorem joined : joinedFacts Tryz.prog 6 Tryz.f6 Rows.topAnyOrderOfRulesSpec Rows.topAnyOrderOfRulesRow = true := by
  unfold joinedFacts
  simp only [Bool.and_eq_true]
  and_intros
  all_goals first
    | (with_reducible exact closed.laidOut)
    | (with_reducible exact closed.mapsRow)
    | (with_reducible exact closed.noStops)
    | (with_reducible exact closed.noKnobs)
    | (with_reducible exact closed.heard)
    | (with_reducible exact closed.enters)
    | (rw [closed.liftsNot]; kernel_rfl)
    | (rw [closed.made]; kernel_rfl)
    | (rw [closed.plain]; kernel_rfl)
    | kernel_rfl

theorem over : Rows.topAnyOrderOfRulesRow.holds Tryz.pinned (OpenSpec.ofChange Rows.topAnyOrderOfRulesSpec) :=
  OpenClaim.holds_of_wide 6 Tryz.f6 rfl rfl rfl rfl rfl rfl rfl ⟨rfl, rfl, rfl, rfl, rfl⟩ rfl rfl rfl rfl rfl (by kernel_rfl) Tryz.func6 joined
    (of_decide_eq_true (by kernel_rfl)) (by unfold Func.isWrapper; first | (rw [if_pos (by decide +kernel)]; kernel_rfl) | (rw [if_neg (by decide +kernel)]; exact ⟨rfl, rfl⟩))
    (fun os started H enc _ => lifted os started H enc)

set_option maxRecDepth 100000 in
/-- the statement: the tied card -/
theorem proved : Rows.TopAnyOrderOfRulesCardSaid :=
  Claim7.holds_tied_plain_at .later [] [.data, .data] true (true, "3a7db61620e390e5a8029fceef33c666a858f8756ec7ff12dee26ef8bb28f349") false
    over (fun _ h => by cases h) (by kernel_rfl) (fun _ h => by cases h) topAnyOrderOfRules_row_tie rfl ⟨rfl, rfl⟩ (by kernel_rfl) rfl
    (fun f fn hf hfn => by
      obtain rfl : f = 6 := Option.some.inj ((show Tryz.prog.funcNamed "compositor/compositortop.TopAnyOrderOfRules" = some 6 by kernel_rfl).symm.trans hf) |>.symm
      obtain rfl : fn = Tryz.f6 := (Option.some.inj (Tryz.func6.symm.trans hfn)).symm
      exact ⟨by kernel_rfl, fun j t ht => by
        have hall : (Tryz.f6.params.toList.all fun u => !Tryz.prog.wantsStandIn u) = true := by kernel_rfl
        have hm : t ∈ Tryz.f6.params.toList := by simpa using Array.mem_of_getElem? ht
        exact (show Tryz.prog.wantsStandIn t = false by simpa using List.all_eq_true.1 hall t hm)⟩)
    (by kernel_rfl)
#print axioms proved
end Go.Proofs.YtbnmadpcdlnleaaGreatDoor.topAnyOrderOfRules
