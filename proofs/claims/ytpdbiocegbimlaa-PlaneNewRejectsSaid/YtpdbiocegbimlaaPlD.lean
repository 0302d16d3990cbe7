/-
  Walks: a new plane, of package plane and of its reference.
-/
import Derived.Test.YtpdbiocegbimlaaPlB
namespace Go.Proofs.Ytpdbiocegbimlaa
open Go.RowKit
set_option linter.unusedVariables false
set_option linter.unusedSimpArgs false

theorem info_u16 : (Try.prog.info? 38).map (fun i => (i.zero, i.size, i.bytes)) = some (some (.int .u16 0), 1, 2) := by kernel_rfl

/-- a plane and a bool, handed back; the plane's samples lie in memory -/
def PlOut (W H S : Int) (l : List Int) (ok : Bool) (w : World) (e : Ending) (w' : World) : Prop :=
  ∃ A c, e = .returned (.tuple #[.agg #[.int .i64 W, .int .i64 H, .int .i64 S, .slice A l.length c], .bool ok]) ∧ Sl w' 1 A l.length (us l) ∧ Below w.heap.size w w' ∧ l.length ≤ c ∧ (c : Int) ≤ 9223372036854775807
theorem made_us (n : Nat) : (madeCells (Value.int .u16 0).cells (n * 1)).toList = us (List.replicate n 0) := by
  simp [madeCells, us, Value.cells, Array.toList_range]
  apply List.ext_getElem?
  intro i
  simp [List.getElem?_replicate]
  split <;> simp_all [Nat.mod_one]
theorem hmake {x : Int} {n : Nat} (hx : x = (n : Int)) (hn : n ≤ 16777216) : ∃ cs : Array Value, cs.toList = us (List.replicate n 0) ∧
    ∀ w : World, (Instr.makeSlice 22 (.int .i64 x) (.int .i64 x)).run Try.prog w = .ok (.slice (some ⟨w.heap.size, 0, none⟩) n n) (w.alloc (.cells cs 38)) := by
  obtain ⟨i0, hi, hz0, hz1, hz2⟩ := info_parts info_u16
  refine ⟨_, made_us n, fun w => ?_⟩
  have h := run_make (P := Try.prog) w 22 38 i0 _ Try.underlying22 hi hz0 .i64 .i64 x x (by omega) (by omega) (by rw [hz2]; omega) (by omega)
  rw [h, hx]
  simp [hz1]
theorem plNew_no {W H S : Int} (h : plNew W H S = false) (h0 : plSize W H = true) (h1 : W ≤ S) (h2 : S ≤ 16777216) : 16777216 < plLen W H S := by
  simp [plNew, h0, h1, h2] at h; exact h
theorem plNew_yes {W H S : Int} (h : plNew W H S = true) : plSize W H = true ∧ W ≤ S ∧ S ≤ 16777216 ∧ plLen W H S ≤ 16777216 := by
  simp [plNew] at h; exact ⟨h.1.1.1, h.1.1.2, h.1.2, h.2⟩
theorem sl_new {w w1 : World} {g n : Nat} {t : TypeId} {cs : Array Value} {l : List Int} (h : Own w g t cs) (hc : cs.toList = us l) (hl : l.length = n) : Sl w 1 (some ⟨g, 0, none⟩) l.length (us l) := by
  rw [← hc]; exact Sl.of_Own h (by rw [hc, us_length]; omega)

set_option maxHeartbeats 2000000 in
theorem New_no (W H S : Int) (w : World) (h : plNew W H S = false) :
    Calls Try.prog 13 #[.int .i64 W, .int .i64 H, .int .i64 S] w (PlOut 0 0 0 [] false w) := by
  have HP := Lib.hid h
  clear h
  cases h0 : plSize W H with
  | false =>
    go_enter Try.func13, Try.ntmps13
    go_wp2_with (go_at_call 24; refine (size_is _ _ _ h0).mono ?_; rintro e w' ⟨rfl, rfl⟩)
    refine bodyPost_ret (v := .tuple #[.agg #[.int .i64 0, .int .i64 0, .int .i64 0, .slice none 0 0], .bool false]) (by simp [results, Try.results13, go_sem]) rfl ?_
    exact ⟨none, 0, rfl, Sl.nil_ _ _, (by repeat (first | exact Below.refl _ _ | apply Below.drew | apply below_drewN | (refine Below.alloc ?_ ?_ _; rotate_left; (first | omega | (simp only [World.size_alloc, World.size_setCell, World.size_drew]; omega))) | (refine Below.setCell ?_ ?_ _; rotate_left; (first | omega | (simp only [World.size_alloc, World.size_setCell, World.size_drew]; omega))) | (refine below_step ?_ (by assumption) ?_; rotate_left; (first | omega | (simp only [World.size_alloc, World.size_setCell, World.size_drew]; omega))) | assumption)), by simp, by simp⟩
  | true =>
    obtain ⟨a1, a2, a3, a4, a5⟩ := plSize_true h0
    have HH0 := Lib.hid h0
    clear h0
    by_cases h1 : W ≤ S
    · by_cases h2 : S ≤ 16777216
      · have h3 := plNew_no HP.out HH0.out h1 h2
        obtain ⟨b1, b2, b3, b4⟩ := plLen_bd HH0.out h1 h2
        skip
        go_enter Try.func13, Try.ntmps13
        go_wp2_with (first | (go_at_call 24; refine (size_is _ _ _ HH0.out).mono ?_; rintro e w' ⟨rfl, rfl⟩) | (go_at_call 25; refine (length_any _ _ _ _ HH0.out h1 h2).mono ?_; rintro e w' ⟨rfl, rfl⟩))
        refine bodyPost_ret (v := .tuple #[.agg #[.int .i64 0, .int .i64 0, .int .i64 0, .slice none 0 0], .bool false]) (by simp [results, Try.results13, go_sem]) rfl ?_
        exact ⟨none, 0, rfl, Sl.nil_ _ _, (by repeat (first | exact Below.refl _ _ | apply Below.drew | apply below_drewN | (refine Below.alloc ?_ ?_ _; rotate_left; (first | omega | (simp only [World.size_alloc, World.size_setCell, World.size_drew]; omega))) | (refine Below.setCell ?_ ?_ _; rotate_left; (first | omega | (simp only [World.size_alloc, World.size_setCell, World.size_drew]; omega))) | (refine below_step ?_ (by assumption) ?_; rotate_left; (first | omega | (simp only [World.size_alloc, World.size_setCell, World.size_drew]; omega))) | assumption)), by simp, by simp⟩
      · go_enter Try.func13, Try.ntmps13
        go_wp2_with (go_at_call 24; refine (size_is _ _ _ HH0.out).mono ?_; rintro e w' ⟨rfl, rfl⟩)
        refine bodyPost_ret (v := .tuple #[.agg #[.int .i64 0, .int .i64 0, .int .i64 0, .slice none 0 0], .bool false]) (by simp [results, Try.results13, go_sem]) rfl ?_
        exact ⟨none, 0, rfl, Sl.nil_ _ _, (by repeat (first | exact Below.refl _ _ | apply Below.drew | apply below_drewN | (refine Below.alloc ?_ ?_ _; rotate_left; (first | omega | (simp only [World.size_alloc, World.size_setCell, World.size_drew]; omega))) | (refine Below.setCell ?_ ?_ _; rotate_left; (first | omega | (simp only [World.size_alloc, World.size_setCell, World.size_drew]; omega))) | (refine below_step ?_ (by assumption) ?_; rotate_left; (first | omega | (simp only [World.size_alloc, World.size_setCell, World.size_drew]; omega))) | assumption)), by simp, by simp⟩
    · go_enter Try.func13, Try.ntmps13
      go_wp2_with (go_at_call 24; refine (size_is _ _ _ HH0.out).mono ?_; rintro e w' ⟨rfl, rfl⟩)
      refine bodyPost_ret (v := .tuple #[.agg #[.int .i64 0, .int .i64 0, .int .i64 0, .slice none 0 0], .bool false]) (by simp [results, Try.results13, go_sem]) rfl ?_
      exact ⟨none, 0, rfl, Sl.nil_ _ _, (by repeat (first | exact Below.refl _ _ | apply Below.drew | apply below_drewN | (refine Below.alloc ?_ ?_ _; rotate_left; (first | omega | (simp only [World.size_alloc, World.size_setCell, World.size_drew]; omega))) | (refine Below.setCell ?_ ?_ _; rotate_left; (first | omega | (simp only [World.size_alloc, World.size_setCell, World.size_drew]; omega))) | (refine below_step ?_ (by assumption) ?_; rotate_left; (first | omega | (simp only [World.size_alloc, World.size_setCell, World.size_drew]; omega))) | assumption)), by simp, by simp⟩

set_option maxHeartbeats 2000000 in
theorem New_yes (W H S : Int) (w : World) (h : plNew W H S = true) :
    Calls Try.prog 13 #[.int .i64 W, .int .i64 H, .int .i64 S] w (PlOut W H S (List.replicate (plLen W H S).toNat 0) true w) := by
  obtain ⟨h0, h1, h2, h3⟩ := plNew_yes h
  obtain ⟨a1, a2, a3, a4, a5⟩ := plSize_true h0
  obtain ⟨b1, b2, b3, b4⟩ := plLen_bd h0 h1 h2
  have HH0 := Lib.hid h0
  have HB := Lib.hid h3
  clear h h0
  obtain ⟨cs, hcs, hmk⟩ := hmake (x := plLen W H S) (n := (plLen W H S).toNat) (by omega) (by omega)
  have HC := Lib.hid hcs
  clear hcs
  skip
  go_enter Try.func13, Try.ntmps13
  go_wp2_with (first | (go_at_call 24; refine (size_is _ _ _ HH0.out).mono ?_; rintro e w' ⟨rfl, rfl⟩) | (go_at_call 25; refine (length_any _ _ _ _ HH0.out h1 h2).mono ?_; rintro e w' ⟨rfl, rfl⟩))
  refine bodyPost_ret (v := .tuple #[.agg #[.int .i64 W, .int .i64 H, .int .i64 S, .slice (some ⟨w.heap.size + 1, 0, none⟩) (plLen W H S).toNat (plLen W H S).toNat], .bool true]) (by simp [results, Try.results13, go_sem]) rfl ?_
  have hown : Own ((w.alloc (.cells #[.int .i64 W, .int .i64 H, .int .i64 S, .slice (some ⟨w.heap.size + 1, 0, none⟩) (plLen W H S).toNat (plLen W H S).toNat] 24)).alloc (.cells cs 38)) (w.heap.size + 1) 38 cs := (by (repeat (first | assumption | (refine Own.new_ _ _ _ ?_; (simp; done)) | apply Own.drew | apply Own.drewN | apply Own.alloc | (refine Own.far' ?_ ?_ _; rotate_left; omega) | apply Own.put | (refine Own.below ?_ ?_; rotate_left; assumption))); all_goals rfl)
  have hs := sl_new (w1 := w) hown HC.out List.length_replicate
  have hl : (List.replicate (plLen W H S).toNat (0 : Int)).length = (plLen W H S).toNat := List.length_replicate
  unfold PlOut
  rw [hl] at hs ⊢
  exact ⟨_, _, rfl, hs, (by repeat (first | exact Below.refl _ _ | apply Below.drew | apply below_drewN | (refine Below.alloc ?_ ?_ _; rotate_left; (first | omega | (simp only [World.size_alloc, World.size_setCell, World.size_drew]; omega))) | (refine Below.setCell ?_ ?_ _; rotate_left; (first | omega | (simp only [World.size_alloc, World.size_setCell, World.size_drew]; omega))) | (refine below_step ?_ (by assumption) ?_; rotate_left; (first | omega | (simp only [World.size_alloc, World.size_setCell, World.size_drew]; omega))) | assumption)), Nat.le_refl _, by have := HB.out; omega⟩

set_option maxHeartbeats 2000000 in
theorem NewPlane_no (W H S : Int) (w : World) (h : plNew W H S = false) :
    Calls Try.prog 14 #[.int .i64 W, .int .i64 H, .int .i64 S] w (PlOut 0 0 0 [] false w) := by
  have HP := Lib.hid h
  clear h
  cases h0 : plSize W H with
  | false =>
    go_enter Try.func14, Try.ntmps14
    go_wp2_with (go_at_call 26; refine (fits_is _ _ _ h0).mono ?_; rintro e w' ⟨rfl, rfl⟩)
    refine bodyPost_ret (v := .tuple #[.agg #[.int .i64 0, .int .i64 0, .int .i64 0, .slice none 0 0], .bool false]) (by simp [results, Try.results14, go_sem]) rfl ?_
    exact ⟨none, 0, rfl, Sl.nil_ _ _, (by repeat (first | exact Below.refl _ _ | apply Below.drew | apply below_drewN | (refine Below.alloc ?_ ?_ _; rotate_left; (first | omega | (simp only [World.size_alloc, World.size_setCell, World.size_drew]; omega))) | (refine Below.setCell ?_ ?_ _; rotate_left; (first | omega | (simp only [World.size_alloc, World.size_setCell, World.size_drew]; omega))) | (refine below_step ?_ (by assumption) ?_; rotate_left; (first | omega | (simp only [World.size_alloc, World.size_setCell, World.size_drew]; omega))) | assumption)), by simp, by simp⟩
  | true =>
    obtain ⟨a1, a2, a3, a4, a5⟩ := plSize_true h0
    have HH0 := Lib.hid h0
    clear h0
    by_cases h1 : W ≤ S
    · by_cases h2 : S ≤ 16777216
      · have h3 := plNew_no HP.out HH0.out h1 h2
        obtain ⟨b1, b2, b3, b4⟩ := plLen_bd HH0.out h1 h2
        unfold plLen at h3 b1 b2
        go_enter Try.func14, Try.ntmps14
        go_wp2_with (go_at_call 26; refine (fits_is _ _ _ HH0.out).mono ?_; rintro e w' ⟨rfl, rfl⟩)
        refine bodyPost_ret (v := .tuple #[.agg #[.int .i64 0, .int .i64 0, .int .i64 0, .slice none 0 0], .bool false]) (by simp [results, Try.results14, go_sem]) rfl ?_
        exact ⟨none, 0, rfl, Sl.nil_ _ _, (by repeat (first | exact Below.refl _ _ | apply Below.drew | apply below_drewN | (refine Below.alloc ?_ ?_ _; rotate_left; (first | omega | (simp only [World.size_alloc, World.size_setCell, World.size_drew]; omega))) | (refine Below.setCell ?_ ?_ _; rotate_left; (first | omega | (simp only [World.size_alloc, World.size_setCell, World.size_drew]; omega))) | (refine below_step ?_ (by assumption) ?_; rotate_left; (first | omega | (simp only [World.size_alloc, World.size_setCell, World.size_drew]; omega))) | assumption)), by simp, by simp⟩
      · go_enter Try.func14, Try.ntmps14
        go_wp2_with (go_at_call 26; refine (fits_is _ _ _ HH0.out).mono ?_; rintro e w' ⟨rfl, rfl⟩)
        refine bodyPost_ret (v := .tuple #[.agg #[.int .i64 0, .int .i64 0, .int .i64 0, .slice none 0 0], .bool false]) (by simp [results, Try.results14, go_sem]) rfl ?_
        exact ⟨none, 0, rfl, Sl.nil_ _ _, (by repeat (first | exact Below.refl _ _ | apply Below.drew | apply below_drewN | (refine Below.alloc ?_ ?_ _; rotate_left; (first | omega | (simp only [World.size_alloc, World.size_setCell, World.size_drew]; omega))) | (refine Below.setCell ?_ ?_ _; rotate_left; (first | omega | (simp only [World.size_alloc, World.size_setCell, World.size_drew]; omega))) | (refine below_step ?_ (by assumption) ?_; rotate_left; (first | omega | (simp only [World.size_alloc, World.size_setCell, World.size_drew]; omega))) | assumption)), by simp, by simp⟩
    · go_enter Try.func14, Try.ntmps14
      go_wp2_with (go_at_call 26; refine (fits_is _ _ _ HH0.out).mono ?_; rintro e w' ⟨rfl, rfl⟩)
      refine bodyPost_ret (v := .tuple #[.agg #[.int .i64 0, .int .i64 0, .int .i64 0, .slice none 0 0], .bool false]) (by simp [results, Try.results14, go_sem]) rfl ?_
      exact ⟨none, 0, rfl, Sl.nil_ _ _, (by repeat (first | exact Below.refl _ _ | apply Below.drew | apply below_drewN | (refine Below.alloc ?_ ?_ _; rotate_left; (first | omega | (simp only [World.size_alloc, World.size_setCell, World.size_drew]; omega))) | (refine Below.setCell ?_ ?_ _; rotate_left; (first | omega | (simp only [World.size_alloc, World.size_setCell, World.size_drew]; omega))) | (refine below_step ?_ (by assumption) ?_; rotate_left; (first | omega | (simp only [World.size_alloc, World.size_setCell, World.size_drew]; omega))) | assumption)), by simp, by simp⟩

set_option maxHeartbeats 2000000 in
theorem NewPlane_yes (W H S : Int) (w : World) (h : plNew W H S = true) :
    Calls Try.prog 14 #[.int .i64 W, .int .i64 H, .int .i64 S] w (PlOut W H S (List.replicate (plLen W H S).toNat 0) true w) := by
  obtain ⟨h0, h1, h2, h3⟩ := plNew_yes h
  obtain ⟨a1, a2, a3, a4, a5⟩ := plSize_true h0
  obtain ⟨b1, b2, b3, b4⟩ := plLen_bd h0 h1 h2
  have HH0 := Lib.hid h0
  have HB := Lib.hid h3
  clear h h0
  obtain ⟨cs, hcs, hmk⟩ := hmake (x := plLen W H S) (n := (plLen W H S).toNat) (by omega) (by omega)
  have HC := Lib.hid hcs
  clear hcs
  unfold plLen at hmk h3 b1 b2
  go_enter Try.func14, Try.ntmps14
  go_wp2_with (go_at_call 26; refine (fits_is _ _ _ HH0.out).mono ?_; rintro e w' ⟨rfl, rfl⟩)
  refine bodyPost_ret (v := .tuple #[.agg #[.int .i64 W, .int .i64 H, .int .i64 S, .slice (some ⟨w.heap.size + 1, 0, none⟩) (plLen W H S).toNat (plLen W H S).toNat], .bool true]) (by simp [results, Try.results14, go_sem, plLen]) rfl ?_
  have hown : Own ((w.alloc (.cells #[.int .i64 W, .int .i64 H, .int .i64 S, .slice (some ⟨w.heap.size + 1, 0, none⟩) (plLen W H S).toNat (plLen W H S).toNat] 24)).alloc (.cells cs 38)) (w.heap.size + 1) 38 cs := (by (repeat (first | assumption | (refine Own.new_ _ _ _ ?_; (simp; done)) | apply Own.drew | apply Own.drewN | apply Own.alloc | (refine Own.far' ?_ ?_ _; rotate_left; omega) | apply Own.put | (refine Own.below ?_ ?_; rotate_left; assumption))); all_goals rfl)
  have hs := sl_new (w1 := w) hown HC.out List.length_replicate
  have hl : (List.replicate (plLen W H S).toNat (0 : Int)).length = (plLen W H S).toNat := List.length_replicate
  unfold PlOut
  rw [hl] at hs ⊢
  exact ⟨_, _, rfl, hs, (by repeat (first | exact Below.refl _ _ | apply Below.drew | apply below_drewN | (refine Below.alloc ?_ ?_ _; rotate_left; (first | omega | (simp only [World.size_alloc, World.size_setCell, World.size_drew]; omega))) | (refine Below.setCell ?_ ?_ _; rotate_left; (first | omega | (simp only [World.size_alloc, World.size_setCell, World.size_drew]; omega))) | (refine below_step ?_ (by assumption) ?_; rotate_left; (first | omega | (simp only [World.size_alloc, World.size_setCell, World.size_drew]; omega))) | assumption)), Nat.le_refl _, by have := HB.out; omega⟩

end Go.Proofs.Ytpdbiocegbimlaa
