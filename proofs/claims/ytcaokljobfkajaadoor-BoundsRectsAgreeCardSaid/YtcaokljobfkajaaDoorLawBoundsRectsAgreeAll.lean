/-
  compositorlaw24.BoundsRectsAgree answers true, whatever it is handed.
  For every input: no condition.
-/
import Derived.Test.YtcaokljobfkajaaDoorBoundsRectsAgreeZ5
import Derived.Test.YtcaokljobfkajaaDoorBoundsRectsAgreeZ2
import Derived.Test.YtcaokljobfkajaaDoorCards
import Derived.Test.YtcaokljobfkajaaDoorTie
import Derived.SevenTiedAt
namespace Go.Proofs.YtcaokljobfkajaaDoor.boundsRectsAgree
open Go.ChangeShapes Go.WideShapes Go.ChangeAt Go.RowKit
set_option linter.unusedVariables false
set_option linter.unusedSimpArgs false

theorem lv_26 : lv Tryd.prog 26 = some [3, 3, 3, 3, 3, 3, 3, 22, 23, 24] := by kernel_rfl
theorem lv_3 : lv Tryd.prog 3 = some [3] := by kernel_rfl
theorem lv_76 : lv Tryd.prog 76 = some [3, 3, 3, 3, 72] := by kernel_rfl
theorem lv_100 : lv Tryd.prog 100 = some [3, 3, 3, 3, 3] := by kernel_rfl
theorem lv_31 : lv Tryd.prog 31 = some [3, 3, 3, 3, 3, 3, 3, 3, 3, 3, 3] := by kernel_rfl
theorem lv_29 : lv Tryd.prog 29 = some [3, 3, 3, 3, 3, 3, 3, 27, 3, 3, 4, 4] := by kernel_rfl

set_option maxRecDepth 100000 in
theorem told (W : World) (args : Array Value) (hg : GlobOK W fun _ => True) (ha : Args Tryd.prog W Tryd.f3.params.toList args.toList) :
    Calls Tryd.prog 3 args W fun e W' => e = .returned (.bool true) ∧ Below W.heap.size W W' := by
  rw [Tryd.params3] at ha
  refine told_of (by kernel_rfl) (fun rs hp hw => ?_) W args hg ha
  · clear ha
    obtain ⟨v0, vs0, rfl, h0, hp⟩ := hp.cons
    obtain ⟨v1, vs1, rfl, h1, hp⟩ := hp.cons
    obtain ⟨v2, vs2, rfl, h2, hp⟩ := hp.cons
    obtain ⟨v3, vs3, rfl, h3, hp⟩ := hp.cons
    obtain ⟨v4, vs4, rfl, h4, hp⟩ := hp.cons
    obtain ⟨v5, vs5, rfl, h5, hp⟩ := hp.cons
    obtain rfl := hp.nil
    clear hw
    obtain ⟨ds0, rfl, hl0, hd0⟩ := h0.many (by kernel_rfl) lv_26
    have g0_0 : LeavesD Tryd.prog 6 _ ds0 := ⟨hl0, hd0⟩
    obtain ⟨d0_0, ds0_0, rfl, e0_0, g0_1⟩ := g0_0.cons
    obtain ⟨sb, rfl⟩ := e0_0.int Tryd.underlying3
    obtain ⟨d0_1, ds0_1, rfl, e0_1, g0_2⟩ := g0_1.cons
    obtain ⟨sx, rfl⟩ := e0_1.int Tryd.underlying3
    obtain ⟨d0_2, ds0_2, rfl, e0_2, g0_3⟩ := g0_2.cons
    obtain ⟨sy, rfl⟩ := e0_2.int Tryd.underlying3
    obtain ⟨d0_3, ds0_3, rfl, e0_3, g0_4⟩ := g0_3.cons
    obtain ⟨sw, rfl⟩ := e0_3.int Tryd.underlying3
    obtain ⟨d0_4, ds0_4, rfl, e0_4, g0_5⟩ := g0_4.cons
    obtain ⟨sh, rfl⟩ := e0_4.int Tryd.underlying3
    obtain ⟨d0_5, ds0_5, rfl, e0_5, g0_6⟩ := g0_5.cons
    obtain ⟨stw, rfl⟩ := e0_5.int Tryd.underlying3
    obtain ⟨d0_6, ds0_6, rfl, e0_6, g0_7⟩ := g0_6.cons
    obtain ⟨sth, rfl⟩ := e0_6.int Tryd.underlying3
    obtain ⟨d0_7, ds0_7, rfl, e0_7, g0_8⟩ := g0_7.cons
    obtain ⟨son, soxs, rfl, by_soxs, len_soxs, at_soxs⟩ := e0_7.slice Tryd.underlying22 lv_3
    obtain ⟨d0_8, ds0_8, rfl, e0_8, g0_9⟩ := g0_8.cons
    obtain ⟨spn, spxs, rfl, by_spxs, len_spxs, at_spxs⟩ := e0_8.slice Tryd.underlying23 lv_76
    obtain ⟨d0_9, ds0_9, rfl, e0_9, g0_10⟩ := g0_9.cons
    obtain ⟨srn, srxs, rfl, by_srxs, len_srxs, at_srxs⟩ := e0_9.slice Tryd.underlying24 lv_31
    obtain rfl := g0_10.nil
    obtain ⟨ds1, rfl, hl1, hd1⟩ := h1.many (by kernel_rfl) lv_29
    have g1_0 : LeavesD Tryd.prog 6 _ ds1 := ⟨hl1, hd1⟩
    obtain ⟨d1_0, ds1_0, rfl, e1_0, g1_1⟩ := g1_0.cons
    obtain ⟨okind, rfl⟩ := e1_0.int Tryd.underlying3
    obtain ⟨d1_1, ds1_1, rfl, e1_1, g1_2⟩ := g1_1.cons
    obtain ⟨oimage, rfl⟩ := e1_1.int Tryd.underlying3
    obtain ⟨d1_2, ds1_2, rfl, e1_2, g1_3⟩ := g1_2.cons
    obtain ⟨ox, rfl⟩ := e1_2.int Tryd.underlying3
    obtain ⟨d1_3, ds1_3, rfl, e1_3, g1_4⟩ := g1_3.cons
    obtain ⟨oy, rfl⟩ := e1_3.int Tryd.underlying3
    obtain ⟨d1_4, ds1_4, rfl, e1_4, g1_5⟩ := g1_4.cons
    obtain ⟨omask, rfl⟩ := e1_4.int Tryd.underlying3
    obtain ⟨d1_5, ds1_5, rfl, e1_5, g1_6⟩ := g1_5.cons
    obtain ⟨omx, rfl⟩ := e1_5.int Tryd.underlying3
    obtain ⟨d1_6, ds1_6, rfl, e1_6, g1_7⟩ := g1_6.cons
    obtain ⟨omy, rfl⟩ := e1_6.int Tryd.underlying3
    obtain ⟨d1_7, ds1_7, rfl, e1_7, g1_8⟩ := g1_7.cons
    obtain ⟨oopac, rfl⟩ := e1_7.int Tryd.underlying27
    obtain ⟨d1_8, ds1_8, rfl, e1_8, g1_9⟩ := g1_8.cons
    obtain ⟨ooper, rfl⟩ := e1_8.int Tryd.underlying3
    obtain ⟨d1_9, ds1_9, rfl, e1_9, g1_10⟩ := g1_9.cons
    obtain ⟨omode, rfl⟩ := e1_9.int Tryd.underlying3
    obtain ⟨d1_10, ds1_10, rfl, e1_10, g1_11⟩ := g1_10.cons
    obtain ⟨oiso, rfl⟩ := e1_10.bool Tryd.underlying4
    obtain ⟨d1_11, ds1_11, rfl, e1_11, g1_12⟩ := g1_11.cons
    obtain ⟨okno, rfl⟩ := e1_11.bool Tryd.underlying4
    obtain rfl := g1_12.nil
    obtain ⟨ds2, rfl, hl2, hd2⟩ := h2.many (by kernel_rfl) lv_31
    have g2_0 : LeavesD Tryd.prog 6 _ ds2 := ⟨hl2, hd2⟩
    obtain ⟨d2_0, ds2_0, rfl, e2_0, g2_1⟩ := g2_0.cons
    obtain ⟨rwk, rfl⟩ := e2_0.int Tryd.underlying3
    obtain ⟨d2_1, ds2_1, rfl, e2_1, g2_2⟩ := g2_1.cons
    obtain ⟨rwim, rfl⟩ := e2_1.int Tryd.underlying3
    obtain ⟨d2_2, ds2_2, rfl, e2_2, g2_3⟩ := g2_2.cons
    obtain ⟨rwx, rfl⟩ := e2_2.int Tryd.underlying3
    obtain ⟨d2_3, ds2_3, rfl, e2_3, g2_4⟩ := g2_3.cons
    obtain ⟨rwy, rfl⟩ := e2_3.int Tryd.underlying3
    obtain ⟨d2_4, ds2_4, rfl, e2_4, g2_5⟩ := g2_4.cons
    obtain ⟨rwma, rfl⟩ := e2_4.int Tryd.underlying3
    obtain ⟨d2_5, ds2_5, rfl, e2_5, g2_6⟩ := g2_5.cons
    obtain ⟨rwmx, rfl⟩ := e2_5.int Tryd.underlying3
    obtain ⟨d2_6, ds2_6, rfl, e2_6, g2_7⟩ := g2_6.cons
    obtain ⟨rwmy, rfl⟩ := e2_6.int Tryd.underlying3
    obtain ⟨d2_7, ds2_7, rfl, e2_7, g2_8⟩ := g2_7.cons
    obtain ⟨rwop, rfl⟩ := e2_7.int Tryd.underlying3
    obtain ⟨d2_8, ds2_8, rfl, e2_8, g2_9⟩ := g2_8.cons
    obtain ⟨rwope, rfl⟩ := e2_8.int Tryd.underlying3
    obtain ⟨d2_9, ds2_9, rfl, e2_9, g2_10⟩ := g2_9.cons
    obtain ⟨rwmo, rfl⟩ := e2_9.int Tryd.underlying3
    obtain ⟨d2_10, ds2_10, rfl, e2_10, g2_11⟩ := g2_10.cons
    obtain ⟨rwfl, rfl⟩ := e2_10.int Tryd.underlying3
    obtain rfl := g2_11.nil
    obtain ⟨w, rfl⟩ := h3.one Tryd.underlying3
    obtain ⟨h, rfl⟩ := h4.one Tryd.underlying3
    obtain ⟨more, rfl⟩ := h5.one Tryd.underlying3
    exact L24_BoundsRectsAgree_ans ⟨sb, sx, sy, sw, sh, stw, sth, son, soxs, spn, spxs, srn, srxs⟩ ⟨okind, oimage, ox, oy, omask, omx, omy, oopac, ooper, omode, oiso, okno⟩ ⟨rwk, rwim, rwx, rwy, rwma, rwmx, rwmy, rwop, rwope, rwmo, rwfl⟩ w h more ⟨(isI_of (by simpa using len_soxs) fun j d hj => by obtain ⟨t', a, q, b⟩ := at_soxs j d hj; exact intLeaf1 Tryd.underlying3 a b), ((show Leaves Tryd.prog [3, 3, 3, 3, 72] spn spxs from ⟨len_spxs, at_spxs⟩).pics Tryd.underlying3 Tryd.underlying72 lv_100), ((show Leaves Tryd.prog [3, 3, 3, 3, 3, 3, 3, 3, 3, 3, 3] srn srxs from ⟨len_srxs, at_srxs⟩).raws Tryd.underlying3)⟩

set_option maxRecDepth 100000 in
theorem lifted (os : Os) (started : os.Started) (H : Type) (enc : TypeId × Value → H) :
    ReturnsInHanded {} Tryd.checked os 3 .any (fun w args => (Rows.boundsRectsAgreeSpec.pre enc Tryd.prog Tryd.f3 [] false w args ∧ laidMetH Tryd.prog laidL w) ∧ sizedMet enc Tryd.prog Tryd.f3 (OpenSpec.ofChange Rows.boundsRectsAgreeSpec) false w args) (Rows.boundsRectsAgreeSpec.post enc Tryd.prog Tryd.f3 false true false false) :=
  law_lift_laid (C := Tryd.checked) (tb := 4) (laid := laidL) closed.own started (by kernel_rfl) Tryd.func3
    (ChangeSpec.witness_shaped (enc := enc) (C := Tryd.checked) (os := os) (X := fun w _ => laidMetH Tryd.prog laidL w) false (World.doorLaid Tryd.prog 400 os) #[.agg #[.int .i64 0, .int .i64 0, .int .i64 0, .int .i64 0, .int .i64 0, .int .i64 0, .int .i64 0, .slice none 0 0, .slice none 0 0, .slice none 0 0], .agg #[.int .i64 0, .int .i64 0, .int .i64 0, .int .i64 0, .int .i64 0, .int .i64 0, .int .i64 0, .int .u16 0, .int .i64 0, .int .i64 0, .bool false, .bool false], .agg #[.int .i64 0, .int .i64 0, .int .i64 0, .int .i64 0, .int .i64 0, .int .i64 0, .int .i64 0, .int .i64 0, .int .i64 0, .int .i64 0, .int .i64 0], .int .i64 0, .int .i64 0, .int .i64 0] 8 rfl (World.shaped_of_RefB (by kernel_rfl) (by kernel_rfl)) (by kernel_rfl) (by kernel_rfl) (by kernel_rfl) (door_met os _))
    (fun ds h => by
      rw [Tryd.params3] at h
      match ds, h with
      | [d0, d1, d2, d3, d4, d5], _ => rfl)
    rfl (by kernel_rfl) Tryd.underlying4 closed.laidOut
    (fun t ht => by
      have hall : (Tryd.f3.params.toList.all fun t => Tryd.prog.readableRec t && decide (t < Tryd.prog.types.size)) = true := by kernel_rfl
      have h2 := List.all_eq_true.1 hall t ht
      rw [Bool.and_eq_true] at h2
      exact ⟨h2.1, of_decide_eq_true h2.2⟩)
    laid_plain tab_ok told

theorem joined : joinedFacts Tryd.prog 3 Tryd.f3 Rows.boundsRectsAgreeSpec Rows.boundsRectsAgreeRow = true := by
  unfold joinedFacts
  simp only [Bool.and_eq_true]
  and_intros
  all_goals first
    | (with_reducible exact closed.laidOut)
    | (with_reducible exact closed.mapsRow)
    | (with_reducible exact closed.noStops)
    | (with_reducible exact closed.noKnobs)
    | (with_reducible exact closed.heard)
    | (with_reducible exact closed.enters)
    | (rw [closed.liftsNot]; kernel_rfl)
    | (rw [closed.made]; kernel_rfl)
    | (rw [closed.plain]; kernel_rfl)
    | kernel_rfl

theorem over : Rows.boundsRectsAgreeRow.holds Tryd.pinned (OpenSpec.ofChange Rows.boundsRectsAgreeSpec) :=
  OpenClaim.holds_of_wide 3 Tryd.f3 rfl rfl rfl rfl rfl rfl rfl ⟨rfl, rfl, rfl, rfl, rfl⟩ rfl rfl rfl rfl rfl (by kernel_rfl) Tryd.func3 joined
    (of_decide_eq_true (by kernel_rfl)) (by unfold Func.isWrapper; first | (rw [if_pos (by decide +kernel)]; kernel_rfl) | (rw [if_neg (by decide +kernel)]; exact ⟨rfl, rfl⟩))
    (fun os started H enc _ => lifted os started H enc)

set_option maxRecDepth 100000 in
/-- the statement: the tied card -/
theorem proved : Rows.BoundsRectsAgreeCardSaid :=
  Claim7.holds_tied_plain_at .later [] [.data, .data] true (true, "31ecf1525c4ee9093b1ebc182cbafc8ad4d5f27688c92a16719a9b2499b8cca0") false
    over (fun _ h => by cases h) (by kernel_rfl) (fun _ h => by cases h) boundsRectsAgree_row_tie rfl ⟨rfl, rfl⟩ (by kernel_rfl) rfl
    (fun f fn hf hfn => by
      obtain rfl : f = 3 := Option.some.inj ((show Tryd.prog.funcNamed "compositor/compositorlaw24.BoundsRectsAgree" = some 3 by kernel_rfl).symm.trans hf) |>.symm
      obtain rfl : fn = Tryd.f3 := (Option.some.inj (Tryd.func3.symm.trans hfn)).symm
      exact ⟨by kernel_rfl, fun j t ht => by
        have hall : (Tryd.f3.params.toList.all fun u => !Tryd.prog.wantsStandIn u) = true := by kernel_rfl
        have hm : t ∈ Tryd.f3.params.toList := by simpa using Array.mem_of_getElem? ht
        exact (show Tryd.prog.wantsStandIn t = false by simpa using List.all_eq_true.1 hall t hm)⟩)
    (by kernel_rfl)
#print axioms proved
end Go.Proofs.YtcaokljobfkajaaDoor.boundsRectsAgree
