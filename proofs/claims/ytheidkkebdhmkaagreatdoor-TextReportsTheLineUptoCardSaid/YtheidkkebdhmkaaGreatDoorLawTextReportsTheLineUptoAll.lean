/-
  compositorlaw19.TextReportsTheLine answers true, whatever it is handed.
  For every input of small bulk.
-/
import Derived.Test.YtheidkkebdhmkaaGreatDoorTextReportsTheLineUptoZ6
import Derived.Test.YtheidkkebdhmkaaGreatDoorTextReportsTheLineUptoZ2
import Derived.Test.YtheidkkebdhmkaaGreatDoorCards
import Derived.Test.YtheidkkebdhmkaaGreatDoorTie
import Derived.SevenTiedAt
namespace Go.Proofs.YtheidkkebdhmkaaGreatDoor.textReportsTheLineUpto
open Go.ChangeShapes Go.WideShapes Go.ChangeAt Go.RowKit
set_option linter.unusedVariables false
set_option linter.unusedSimpArgs false

theorem lv_26 : lv Tryz.prog 26 = some [3, 3, 3, 3, 3, 3, 3, 22, 23, 24] := by kernel_rfl
theorem lv_3 : lv Tryz.prog 3 = some [3] := by kernel_rfl
theorem lv_71 : lv Tryz.prog 71 = some [3, 3, 3, 3, 67] := by kernel_rfl
theorem lv_142 : lv Tryz.prog 142 = some [3, 3, 3, 3, 3] := by kernel_rfl
theorem lv_74 : lv Tryz.prog 74 = some [3, 3, 3, 3, 3, 3, 3, 3, 3, 3, 3] := by kernel_rfl

set_option maxRecDepth 100000 in
theorem told (W : World) (args : Array Value) (hg : zXB W fun _ => True) (ha : Args Tryz.prog W Tryz.f8.params.toList args.toList) (hs : jZM Tryz.prog Tryz.f8.params.toList args.toList) :
    Calls Tryz.prog 8 args W fun e W' => e = .returned (.bool true) ∧ Below W.heap.size W W' := by
  rw [Tryz.params8] at ha hs
  refine jZP (by kernel_rfl) (fun rs hp hw hB => ?_) W args hg ha hs
  · clear ha hs
    obtain ⟨v0, vs0, rfl, h0, hp⟩ := hp.cons
    obtain ⟨v1, vs1, rfl, h1, hp⟩ := hp.cons
    obtain ⟨v2, vs2, rfl, h2, hp⟩ := hp.cons
    obtain rfl := hp.nil
    clear hw
    obtain ⟨ds0, rfl, hl0, hd0⟩ := h0.many (by kernel_rfl) lv_26
    have g0_0 : zVp Tryz.prog 6 _ ds0 := ⟨hl0, hd0⟩
    obtain ⟨d0_0, ds0_0, rfl, e0_0, g0_1⟩ := g0_0.cons
    obtain ⟨sb, rfl⟩ := e0_0.int Tryz.underlying3
    obtain ⟨d0_1, ds0_1, rfl, e0_1, g0_2⟩ := g0_1.cons
    obtain ⟨sx, rfl⟩ := e0_1.int Tryz.underlying3
    obtain ⟨d0_2, ds0_2, rfl, e0_2, g0_3⟩ := g0_2.cons
    obtain ⟨sy, rfl⟩ := e0_2.int Tryz.underlying3
    obtain ⟨d0_3, ds0_3, rfl, e0_3, g0_4⟩ := g0_3.cons
    obtain ⟨sw, rfl⟩ := e0_3.int Tryz.underlying3
    obtain ⟨d0_4, ds0_4, rfl, e0_4, g0_5⟩ := g0_4.cons
    obtain ⟨sh, rfl⟩ := e0_4.int Tryz.underlying3
    obtain ⟨d0_5, ds0_5, rfl, e0_5, g0_6⟩ := g0_5.cons
    obtain ⟨stw, rfl⟩ := e0_5.int Tryz.underlying3
    obtain ⟨d0_6, ds0_6, rfl, e0_6, g0_7⟩ := g0_6.cons
    obtain ⟨sth, rfl⟩ := e0_6.int Tryz.underlying3
    obtain ⟨d0_7, ds0_7, rfl, e0_7, g0_8⟩ := g0_7.cons
    obtain ⟨son, soxs, rfl, by_soxs, len_soxs, at_soxs⟩ := e0_7.slice Tryz.underlying22 lv_3
    obtain ⟨d0_8, ds0_8, rfl, e0_8, g0_9⟩ := g0_8.cons
    obtain ⟨spn, spxs, rfl, by_spxs, len_spxs, at_spxs⟩ := e0_8.slice Tryz.underlying23 lv_71
    obtain ⟨d0_9, ds0_9, rfl, e0_9, g0_10⟩ := g0_9.cons
    obtain ⟨srn, srxs, rfl, by_srxs, len_srxs, at_srxs⟩ := e0_9.slice Tryz.underlying24 lv_74
    obtain rfl := g0_10.nil
    obtain ⟨what, rfl⟩ := h1.one Tryz.underlying3
    obtain ⟨ms, rfl⟩ := h2.oneS Tryz.underlying9
    exact zYm ⟨sb, sx, sy, sw, sh, stw, sth, son, soxs, spn, spxs, srn, srxs⟩ what (ofS ms) ⟨(jJU (by simpa using len_soxs) fun j d hj => by obtain ⟨t', a, q, b⟩ := at_soxs j d hj; exact jZp Tryz.underlying3 a b), ((show zZZ Tryz.prog [3, 3, 3, 3, 67] spn spxs from ⟨len_spxs, at_spxs⟩).pics Tryz.underlying3 Tryz.underlying67 lv_142), ((show zZZ Tryz.prog [3, 3, 3, 3, 3, 3, 3, 3, 3, 3, 3] srn srxs from ⟨len_srxs, at_srxs⟩).raws Tryz.underlying3)⟩ (show (ofS ms).length ≤ 1048576 from hB 2 9 ms rfl Tryz.underlying9 rfl)

set_option maxRecDepth 100000 in
theorem lifted (os : Os) (started : os.Started) (H : Type) (enc : TypeId × Value → H) (Fi : Stop.Interp) :
    ReturnsInHanded {} Tryz.checked os 8 .any ((Rows.OpenSpec.upto Rows.textReportsTheLineSpec).preRow enc Tryz.prog Tryz.f8 Rows.textReportsTheLineUptoRow.domain false Rows.textReportsTheLineUptoRow.laid) (((Rows.OpenSpec.upto Rows.textReportsTheLineSpec).at Fi).post enc Tryz.prog Tryz.f8 false true false false) := by
  have hx : (DataW.whole enc Tryz.prog ((World.laidAll Tryz.prog os zHA).forCall (fun _ _ => 0) ⟨#[], #[.agg #[.int .i64 0, .int .i64 0, .int .i64 0, .int .i64 0, .int .i64 0, .int .i64 0, .int .i64 0, .slice none 0 0, .slice none 0 0, .slice none 0 0], .int .i64 0, .string "".toUTF8], []⟩).memory Tryz.f8.params.toList Rows.textReportsTheLineSpec.vars false (#[.agg #[.int .i64 0, .int .i64 0, .int .i64 0, .int .i64 0, .int .i64 0, .int .i64 0, .int .i64 0, .slice none 0 0, .slice none 0 0, .slice none 0 0], .int .i64 0, .string "".toUTF8] : Array Value).toList 8).any (fun x => Rows.uptoSmall H (x.1 ++ x.2.1)) = true := by kernel_rfl
  obtain ⟨x, hx, hk⟩ := (Option.any_eq_true _ _).1 hx
  exact zGx (C := Tryz.checked) (tb := 4) (laid := zHA) closed.own started (by kernel_rfl) Tryz.func8
    (zGX (enc := enc) (C := Tryz.checked) (s := Rows.OpenSpec.upto Rows.textReportsTheLineSpec) (World.laidAll Tryz.prog os zHA) #[.agg #[.int .i64 0, .int .i64 0, .int .i64 0, .int .i64 0, .int .i64 0, .int .i64 0, .int .i64 0, .slice none 0 0, .slice none 0 0, .slice none 0 0], .int .i64 0, .string "".toUTF8] (World.laidAll_os _ _ _) (World.shaped_of_ZipB (by kernel_rfl) (by kernel_rfl)) (by kernel_rfl)
      (OpenSpec.preRow_of_cond 8 hx (by kernel_rfl) (fun k e => by cases e; exact hk) (by kernel_rfl) (jJv os _)))
    (fun ds h => by
      rw [Tryz.params8] at h
      match ds, h with
      | [d0, d1, d2], _ => rfl)
    rfl (by kernel_rfl) Tryz.underlying4 closed.laidOut
    (fun t ht => by
      have hall : (Tryz.f8.params.toList.all fun t => Tryz.prog.readableRec t && decide (t < Tryz.prog.types.size)) = true := by kernel_rfl
      have h2 := List.all_eq_true.1 hall t ht
      rw [Bool.and_eq_true] at h2
      exact ⟨h2.1, of_decide_eq_true h2.2⟩)
    zUL jK7 jKe jKJ told

theorem joined : joinedFacts Tryz.prog 8 Tryz.f8 (Rows.OpenSpec.upto Rows.textReportsTheLineSpec).bare Rows.textReportsTheLineUptoRow = true := by
  unfold joinedFacts
  simp only [Bool.and_eq_true]
  and_intros
  all_goals first
    | (with_reducible exact closed.laidOut)
    | (with_reducible exact closed.mapsRow)
    | (with_reducible exact closed.noStops)
    | (with_reducible exact closed.noKnobs)
    | (with_reducible exact closed.heard)
    | (with_reducible exact closed.enters)
    | (rw [closed.liftsNot]; kernel_rfl)
    | (rw [closed.made]; kernel_rfl)
    | (rw [closed.plain]; kernel_rfl)
    | kernel_rfl

theorem over : Rows.TextReportsTheLineUptoSaid :=
  OpenClaim.holds_of_cond 8 Tryz.f8 rfl rfl rfl rfl rfl rfl rfl ⟨rfl, rfl, rfl, rfl, rfl⟩ rfl rfl rfl rfl rfl (by kernel_rfl) Tryz.func8 joined
    (of_decide_eq_true (by kernel_rfl)) (by unfold Func.isWrapper; first | (rw [if_pos (by decide +kernel)]; kernel_rfl) | (rw [if_neg (by decide +kernel)]; exact ⟨rfl, rfl⟩))
    (fun os started H enc _ Fi => by rw [OpenClaim.pre_eq_preRow]; exact lifted os started H enc Fi)

set_option maxRecDepth 100000 in
/-- the statement: the tied card -/
theorem proved : Rows.TextReportsTheLineUptoCardSaid :=
  Claim7.holds_tied_plain_at .later [] [.data, .data, .data, .data, .data, .data, .sentinel, .sentinel, .pinned] true (true, "efeb7ff7d0dad67460b2511a4add4e2ed624acc7f88cd160b404140ed2932009") true
    over (fun _ h => by cases h) (by kernel_rfl) (fun _ h => by cases h) textReportsTheLineUpto_row_tie rfl ⟨rfl, rfl⟩ (by kernel_rfl) rfl
    (fun f fn hf hfn => by
      obtain rfl : f = 8 := Option.some.inj ((show Tryz.prog.funcNamed "compositor/compositorlaw19.TextReportsTheLine" = some 8 by kernel_rfl).symm.trans hf) |>.symm
      obtain rfl : fn = Tryz.f8 := (Option.some.inj (Tryz.func8.symm.trans hfn)).symm
      exact ⟨by kernel_rfl, fun j t ht => by
        have hall : (Tryz.f8.params.toList.all fun u => !Tryz.prog.wantsStandIn u) = true := by kernel_rfl
        have hm : t ∈ Tryz.f8.params.toList := by simpa using Array.mem_of_getElem? ht
        exact (show Tryz.prog.wantsStandIn t = false by simpa using List.all_eq_true.1 hall t hm)⟩)
    (by kernel_rfl)
#print axioms proved
end Go.Proofs.YtheidkkebdhmkaaGreatDoor.textReportsTheLineUpto
