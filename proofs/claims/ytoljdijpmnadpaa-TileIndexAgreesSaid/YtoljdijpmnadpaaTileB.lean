/-
  Walks: the rectangle of a tile, of package tile and of its reference.
-/
import Derived.Test.YtoljdijpmnadpaaTileA
namespace Go.Proofs.Ytoljdijpmnadpaa
open Go.RowKit
set_option linter.unusedVariables false
set_option linter.unusedSimpArgs false

theorem at_no {r : Rc} {w h i : Int} (hh : tHas r w h i = false) : tRect r w h i = Rc.zero := by simp [tRect, hh]
theorem at_yes {r : Rc} {w h i : Int} (hh : tHas r w h i = true) : tRect r w h i = tAt r w h i := by simp [tRect, hh]

theorem Count_no (a b c d x y : Int) (w : World) (ho : tOk ⟨a, b, c, d⟩ x y = false) :
    Calls Try.prog 10 #[.agg #[.int .i64 a, .int .i64 b, .int .i64 c, .int .i64 d], .int .i64 x, .int .i64 y] w fun e w' => e = .returned (.tuple #[.int .i64 0, .int .i64 0, .bool false]) ∧ Below w.heap.size w w' :=
  (Count_any a b c d x y w).mono fun _ _ ⟨he, hb⟩ => ⟨by rw [he]; exact ret3_eq (cnt_no ho).1.symm (cnt_no ho).2.1.symm ho, hb⟩
theorem Count_yes (a b c d x y : Int) (w : World) {n m : Int} (ho : tOk ⟨a, b, c, d⟩ x y = true) (hn : tNx ⟨a, b, c, d⟩ x = n) (hm : tNy ⟨a, b, c, d⟩ y = m) :
    Calls Try.prog 10 #[.agg #[.int .i64 a, .int .i64 b, .int .i64 c, .int .i64 d], .int .i64 x, .int .i64 y] w fun e w' => e = .returned (.tuple #[.int .i64 n, .int .i64 m, .bool true]) ∧ Below w.heap.size w w' :=
  (Count_any a b c d x y w).mono fun _ _ ⟨he, hb⟩ => ⟨by rw [he]; exact ret3_eq (by rw [← hn]; simp [cNx, ho]) (by rw [← hm]; simp [cNy, ho]) ho, hb⟩

set_option maxHeartbeats 1000000 in
theorem TRect_any (a b c d x y i : Int) (w : World) (_hi : -9223372036854775808 ≤ i) (_hi' : i ≤ 9223372036854775807) :
    Calls Try.prog 12 #[.agg #[.int .i64 a, .int .i64 b, .int .i64 c, .int .i64 d], .int .i64 x, .int .i64 y, .int .i64 i] w fun e w' => e = .returned (.tuple #[.agg #[.int .i64 (tRect ⟨a, b, c, d⟩ x y i).a, .int .i64 (tRect ⟨a, b, c, d⟩ x y i).b, .int .i64 (tRect ⟨a, b, c, d⟩ x y i).c, .int .i64 (tRect ⟨a, b, c, d⟩ x y i).d], .bool (tHas ⟨a, b, c, d⟩ x y i)]) ∧ Below w.heap.size w w' := by
  cases ho : tOk ⟨a, b, c, d⟩ x y with
  | false =>
    have hh : tHas ⟨a, b, c, d⟩ x y i = false := by simp [tHas, ho]
    have hz := at_no hh
    have HH := Lib.hid hh
    have HZ := Lib.hid hz
    clear hh hz
    go_enter Try.func12, Try.ntmps12
    go_wp2_with (go_at_call 10; refine (Count_no _ _ _ _ _ _ _ ho).mono ?_; rintro e w1 ⟨rfl, hb1⟩; obtain ⟨hc1, hf1, hz1⟩ := bcall hb1; (try simp only [World.size_alloc, World.size_setCell, World.size_drew] at hz1); have hs1_0 : w.heap.size < w1.heap.size := (by omega); have hs1_1 : w.heap.size + 1 < w1.heap.size := (by omega))
    exact bodyPost_ret (v := .tuple #[.agg #[.int .i64 0, .int .i64 0, .int .i64 0, .int .i64 0], .bool false]) (by simp [results, Try.results12, go_sem, *]) rfl ⟨by rw [HZ.out, HH.out]; rfl, (by repeat (first | exact Below.refl _ _ | apply Below.drew | apply below_drewN | (refine Below.alloc ?_ ?_ _; rotate_left; (first | omega | (simp only [World.size_alloc, World.size_setCell, World.size_drew]; omega))) | (refine Below.setCell ?_ ?_ _; rotate_left; (first | omega | (simp only [World.size_alloc, World.size_setCell, World.size_drew]; omega))) | (refine below_step ?_ (by assumption) ?_; rotate_left; (first | omega | (simp only [World.size_alloc, World.size_setCell, World.size_drew]; omega))) | assumption))⟩
  | true =>
    obtain ⟨b1, b2, b3, b4, b5, b6, b7, b8⟩ := nx_bd ho
    obtain ⟨_, g1, g2, g3, g4, a1, a2, a3, a4, a5, a6⟩ := tOk_true ho
    simp only at g1 g2 g3 g4 a1 a2 a3 a4 a5 a6 b5 b6 b7 b8
    have nm1 := mul_bd (x := tNx ⟨a, b, c, d⟩ x) (y := tNy ⟨a, b, c, d⟩ y) (M := 2147483648) (by omega) (by omega) (by omega) (by omega)
    by_cases hi : 0 ≤ i
    · have hiff := has_i (n := tNx ⟨a, b, c, d⟩ x) (m := tNy ⟨a, b, c, d⟩ y) b1 hi
      by_cases hlt : i / tNx ⟨a, b, c, d⟩ x < tNy ⟨a, b, c, d⟩ y
      · obtain ⟨c1, c2, c3, c4, c5, c6, c7⟩ := at_bd ho hi hlt
        have hlt2 := hiff.2 hlt
        have hh : tHas ⟨a, b, c, d⟩ x y i = true := by simp [tHas, ho, hi, hlt2]
        have HZ := Lib.hid (at_yes hh)
        have HH := Lib.hid hh
        have HO := Lib.hid ho
        clear hh ho hiff
        simp only at c4 c7
        generalize hn : tNx ⟨a, b, c, d⟩ x = n at *
        generalize hm : tNy ⟨a, b, c, d⟩ y = m at *
        have HN := Lib.hid hn
        have HM := Lib.hid hm
        have hmn := fun w => @run_min_two Try.prog w
        clear hn hm b5 b6 b7 b8
        go_enter Try.func12, Try.ntmps12
        go_wp2_with (go_at_call 10; refine (Count_yes _ _ _ _ _ _ _ HO.out HN.out HM.out).mono ?_; rintro e w1 ⟨rfl, hb1⟩; obtain ⟨hc1, hf1, hz1⟩ := bcall hb1; (try simp only [World.size_alloc, World.size_setCell, World.size_drew] at hz1); have hs1_0 : w.heap.size < w1.heap.size := (by omega); have hs1_1 : w.heap.size + 1 < w1.heap.size := (by omega))
        go_quiet (fail)
        go_wp2
        exact bodyPost_ret (v := .tuple #[.agg #[.int .i64 (a + i % n * x), .int .i64 (b + i / n * y), .int .i64 (min (a + i % n * x + x) c), .int .i64 (min (b + i / n * y + y) d)], .bool true]) (by simp [results, Try.results12, go_sem, *]) rfl ⟨by rw [HZ.out, HH.out]; unfold tAt; simp only [HN.out], (by repeat (first | exact Below.refl _ _ | apply Below.drew | apply below_drewN | (refine Below.alloc ?_ ?_ _; rotate_left; (first | omega | (simp only [World.size_alloc, World.size_setCell, World.size_drew]; omega))) | (refine Below.setCell ?_ ?_ _; rotate_left; (first | omega | (simp only [World.size_alloc, World.size_setCell, World.size_drew]; omega))) | (refine below_step ?_ (by assumption) ?_; rotate_left; (first | omega | (simp only [World.size_alloc, World.size_setCell, World.size_drew]; omega))) | assumption))⟩
      · have hlt2 : ¬ i < tNx ⟨a, b, c, d⟩ x * tNy ⟨a, b, c, d⟩ y := fun h => hlt (hiff.1 h)
        have hh : tHas ⟨a, b, c, d⟩ x y i = false := by simp [tHas, ho]; omega
        have HO := Lib.hid ho
        have HZ := Lib.hid (at_no hh)
        have HH := Lib.hid hh
        clear hh ho hiff
        generalize hn : tNx ⟨a, b, c, d⟩ x = n at *
        generalize hm : tNy ⟨a, b, c, d⟩ y = m at *
        have HN := Lib.hid hn
        have HM := Lib.hid hm
        clear hn hm b5 b6 b7 b8
        go_enter Try.func12, Try.ntmps12
        go_wp2_with (go_at_call 10; refine (Count_yes _ _ _ _ _ _ _ HO.out HN.out HM.out).mono ?_; rintro e w1 ⟨rfl, hb1⟩; obtain ⟨hc1, hf1, hz1⟩ := bcall hb1; (try simp only [World.size_alloc, World.size_setCell, World.size_drew] at hz1); have hs1_0 : w.heap.size < w1.heap.size := (by omega); have hs1_1 : w.heap.size + 1 < w1.heap.size := (by omega))
        exact bodyPost_ret (v := .tuple #[.agg #[.int .i64 0, .int .i64 0, .int .i64 0, .int .i64 0], .bool false]) (by simp [results, Try.results12, go_sem, *]) rfl ⟨by rw [HZ.out, HH.out]; rfl, (by repeat (first | exact Below.refl _ _ | apply Below.drew | apply below_drewN | (refine Below.alloc ?_ ?_ _; rotate_left; (first | omega | (simp only [World.size_alloc, World.size_setCell, World.size_drew]; omega))) | (refine Below.setCell ?_ ?_ _; rotate_left; (first | omega | (simp only [World.size_alloc, World.size_setCell, World.size_drew]; omega))) | (refine below_step ?_ (by assumption) ?_; rotate_left; (first | omega | (simp only [World.size_alloc, World.size_setCell, World.size_drew]; omega))) | assumption))⟩
    · have hh : tHas ⟨a, b, c, d⟩ x y i = false := by simp [tHas, ho]; omega
      have HO := Lib.hid ho
      have HZ := Lib.hid (at_no hh)
      have HH := Lib.hid hh
      clear hh ho
      generalize hn : tNx ⟨a, b, c, d⟩ x = n at *
      generalize hm : tNy ⟨a, b, c, d⟩ y = m at *
      have HN := Lib.hid hn
      have HM := Lib.hid hm
      clear hn hm b5 b6 b7 b8
      go_enter Try.func12, Try.ntmps12
      go_wp2_with (go_at_call 10; refine (Count_yes _ _ _ _ _ _ _ HO.out HN.out HM.out).mono ?_; rintro e w1 ⟨rfl, hb1⟩; obtain ⟨hc1, hf1, hz1⟩ := bcall hb1; (try simp only [World.size_alloc, World.size_setCell, World.size_drew] at hz1); have hs1_0 : w.heap.size < w1.heap.size := (by omega); have hs1_1 : w.heap.size + 1 < w1.heap.size := (by omega))
      exact bodyPost_ret (v := .tuple #[.agg #[.int .i64 0, .int .i64 0, .int .i64 0, .int .i64 0], .bool false]) (by simp [results, Try.results12, go_sem, *]) rfl ⟨by rw [HZ.out, HH.out]; rfl, (by repeat (first | exact Below.refl _ _ | apply Below.drew | apply below_drewN | (refine Below.alloc ?_ ?_ _; rotate_left; (first | omega | (simp only [World.size_alloc, World.size_setCell, World.size_drew]; omega))) | (refine Below.setCell ?_ ?_ _; rotate_left; (first | omega | (simp only [World.size_alloc, World.size_setCell, World.size_drew]; omega))) | (refine below_step ?_ (by assumption) ?_; rotate_left; (first | omega | (simp only [World.size_alloc, World.size_setCell, World.size_drew]; omega))) | assumption))⟩

theorem Tiles_no (a b c d x y : Int) (w : World) (ho : tOk ⟨a, b, c, d⟩ x y = false) :
    Calls Try.prog 11 #[.agg #[.int .i64 a, .int .i64 b, .int .i64 c, .int .i64 d], .int .i64 x, .int .i64 y] w fun e w' => e = .returned (.tuple #[.int .i64 0, .int .i64 0, .bool false]) ∧ Below w.heap.size w w' :=
  (Tiles_any a b c d x y w).mono fun _ _ ⟨he, hb⟩ => ⟨by rw [he]; exact ret3_eq (cnt_no ho).1.symm (cnt_no ho).2.1.symm ho, hb⟩
theorem Tiles_yes (a b c d x y : Int) (w : World) {n m : Int} (ho : tOk ⟨a, b, c, d⟩ x y = true) (hn : tNx ⟨a, b, c, d⟩ x = n) (hm : tNy ⟨a, b, c, d⟩ y = m) :
    Calls Try.prog 11 #[.agg #[.int .i64 a, .int .i64 b, .int .i64 c, .int .i64 d], .int .i64 x, .int .i64 y] w fun e w' => e = .returned (.tuple #[.int .i64 n, .int .i64 m, .bool true]) ∧ Below w.heap.size w w' :=
  (Tiles_any a b c d x y w).mono fun _ _ ⟨he, hb⟩ => ⟨by rw [he]; exact ret3_eq (by rw [← hn]; simp [cNx, ho]) (by rw [← hm]; simp [cNy, ho]) ho, hb⟩

set_option maxHeartbeats 1000000 in
theorem TTile_any (a b c d x y i : Int) (w : World) (_hi : -9223372036854775808 ≤ i) (_hi' : i ≤ 9223372036854775807) :
    Calls Try.prog 13 #[.agg #[.int .i64 a, .int .i64 b, .int .i64 c, .int .i64 d], .int .i64 x, .int .i64 y, .int .i64 i] w fun e w' => e = .returned (.tuple #[.agg #[.int .i64 (tRect ⟨a, b, c, d⟩ x y i).a, .int .i64 (tRect ⟨a, b, c, d⟩ x y i).b, .int .i64 (tRect ⟨a, b, c, d⟩ x y i).c, .int .i64 (tRect ⟨a, b, c, d⟩ x y i).d], .bool (tHas ⟨a, b, c, d⟩ x y i)]) ∧ Below w.heap.size w w' := by
  cases ho : tOk ⟨a, b, c, d⟩ x y with
  | false =>
    have hh : tHas ⟨a, b, c, d⟩ x y i = false := by simp [tHas, ho]
    have hz := at_no hh
    have HH := Lib.hid hh
    have HZ := Lib.hid hz
    clear hh hz
    go_enter Try.func13, Try.ntmps13
    go_wp2_with (go_at_call 11; refine (Tiles_no _ _ _ _ _ _ _ ho).mono ?_; rintro e w1 ⟨rfl, hb1⟩; obtain ⟨hc1, hf1, hz1⟩ := bcall hb1; (try simp only [World.size_alloc, World.size_setCell, World.size_drew] at hz1); have hs1_0 : w.heap.size < w1.heap.size := (by omega); have hs1_1 : w.heap.size + 1 < w1.heap.size := (by omega))
    exact bodyPost_ret (v := .tuple #[.agg #[.int .i64 0, .int .i64 0, .int .i64 0, .int .i64 0], .bool false]) (by simp [results, Try.results13, go_sem, *]) rfl ⟨by rw [HZ.out, HH.out]; rfl, (by repeat (first | exact Below.refl _ _ | apply Below.drew | apply below_drewN | (refine Below.alloc ?_ ?_ _; rotate_left; (first | omega | (simp only [World.size_alloc, World.size_setCell, World.size_drew]; omega))) | (refine Below.setCell ?_ ?_ _; rotate_left; (first | omega | (simp only [World.size_alloc, World.size_setCell, World.size_drew]; omega))) | (refine below_step ?_ (by assumption) ?_; rotate_left; (first | omega | (simp only [World.size_alloc, World.size_setCell, World.size_drew]; omega))) | assumption))⟩
  | true =>
    obtain ⟨b1, b2, b3, b4, b5, b6, b7, b8⟩ := nx_bd ho
    obtain ⟨_, g1, g2, g3, g4, a1, a2, a3, a4, a5, a6⟩ := tOk_true ho
    simp only at g1 g2 g3 g4 a1 a2 a3 a4 a5 a6 b5 b6 b7 b8
    have nm1 := mul_bd (x := tNx ⟨a, b, c, d⟩ x) (y := tNy ⟨a, b, c, d⟩ y) (M := 2147483648) (by omega) (by omega) (by omega) (by omega)
    by_cases hi : 0 ≤ i
    · have hiff := has_i (n := tNx ⟨a, b, c, d⟩ x) (m := tNy ⟨a, b, c, d⟩ y) b1 hi
      by_cases hlt : i / tNx ⟨a, b, c, d⟩ x < tNy ⟨a, b, c, d⟩ y
      · obtain ⟨c1, c2, c3, c4, c5, c6, c7⟩ := at_bd ho hi hlt
        have hlt2 := hiff.2 hlt
        have hh : tHas ⟨a, b, c, d⟩ x y i = true := by simp [tHas, ho, hi, hlt2]
        have HZ := Lib.hid (at_yes hh)
        have HH := Lib.hid hh
        have HO := Lib.hid ho
        clear hh ho hiff
        simp only at c4 c7
        generalize hn : tNx ⟨a, b, c, d⟩ x = n at *
        generalize hm : tNy ⟨a, b, c, d⟩ y = m at *
        have HN := Lib.hid hn
        have HM := Lib.hid hm
        have hmn := fun w => @run_min_two Try.prog w
        clear hn hm b5 b6 b7 b8
        go_enter Try.func13, Try.ntmps13
        go_wp2_with (go_at_call 11; refine (Tiles_yes _ _ _ _ _ _ _ HO.out HN.out HM.out).mono ?_; rintro e w1 ⟨rfl, hb1⟩; obtain ⟨hc1, hf1, hz1⟩ := bcall hb1; (try simp only [World.size_alloc, World.size_setCell, World.size_drew] at hz1); have hs1_0 : w.heap.size < w1.heap.size := (by omega); have hs1_1 : w.heap.size + 1 < w1.heap.size := (by omega))
        go_quiet (fail)
        go_wp2
        exact bodyPost_ret (v := .tuple #[.agg #[.int .i64 (a + i % n * x), .int .i64 (b + i / n * y), .int .i64 (min (a + i % n * x + x) c), .int .i64 (min (b + i / n * y + y) d)], .bool true]) (by simp [results, Try.results13, go_sem, *]) rfl ⟨by rw [HZ.out, HH.out]; unfold tAt; simp only [HN.out], (by repeat (first | exact Below.refl _ _ | apply Below.drew | apply below_drewN | (refine Below.alloc ?_ ?_ _; rotate_left; (first | omega | (simp only [World.size_alloc, World.size_setCell, World.size_drew]; omega))) | (refine Below.setCell ?_ ?_ _; rotate_left; (first | omega | (simp only [World.size_alloc, World.size_setCell, World.size_drew]; omega))) | (refine below_step ?_ (by assumption) ?_; rotate_left; (first | omega | (simp only [World.size_alloc, World.size_setCell, World.size_drew]; omega))) | assumption))⟩
      · have hlt2 : ¬ i < tNx ⟨a, b, c, d⟩ x * tNy ⟨a, b, c, d⟩ y := fun h => hlt (hiff.1 h)
        have hh : tHas ⟨a, b, c, d⟩ x y i = false := by simp [tHas, ho]; omega
        have HO := Lib.hid ho
        have HZ := Lib.hid (at_no hh)
        have HH := Lib.hid hh
        clear hh ho hiff
        generalize hn : tNx ⟨a, b, c, d⟩ x = n at *
        generalize hm : tNy ⟨a, b, c, d⟩ y = m at *
        have HN := Lib.hid hn
        have HM := Lib.hid hm
        clear hn hm b5 b6 b7 b8
        go_enter Try.func13, Try.ntmps13
        go_wp2_with (go_at_call 11; refine (Tiles_yes _ _ _ _ _ _ _ HO.out HN.out HM.out).mono ?_; rintro e w1 ⟨rfl, hb1⟩; obtain ⟨hc1, hf1, hz1⟩ := bcall hb1; (try simp only [World.size_alloc, World.size_setCell, World.size_drew] at hz1); have hs1_0 : w.heap.size < w1.heap.size := (by omega); have hs1_1 : w.heap.size + 1 < w1.heap.size := (by omega))
        exact bodyPost_ret (v := .tuple #[.agg #[.int .i64 0, .int .i64 0, .int .i64 0, .int .i64 0], .bool false]) (by simp [results, Try.results13, go_sem, *]) rfl ⟨by rw [HZ.out, HH.out]; rfl, (by repeat (first | exact Below.refl _ _ | apply Below.drew | apply below_drewN | (refine Below.alloc ?_ ?_ _; rotate_left; (first | omega | (simp only [World.size_alloc, World.size_setCell, World.size_drew]; omega))) | (refine Below.setCell ?_ ?_ _; rotate_left; (first | omega | (simp only [World.size_alloc, World.size_setCell, World.size_drew]; omega))) | (refine below_step ?_ (by assumption) ?_; rotate_left; (first | omega | (simp only [World.size_alloc, World.size_setCell, World.size_drew]; omega))) | assumption))⟩
    · have hh : tHas ⟨a, b, c, d⟩ x y i = false := by simp [tHas, ho]; omega
      have HO := Lib.hid ho
      have HZ := Lib.hid (at_no hh)
      have HH := Lib.hid hh
      clear hh ho
      generalize hn : tNx ⟨a, b, c, d⟩ x = n at *
      generalize hm : tNy ⟨a, b, c, d⟩ y = m at *
      have HN := Lib.hid hn
      have HM := Lib.hid hm
      clear hn hm b5 b6 b7 b8
      go_enter Try.func13, Try.ntmps13
      go_wp2_with (go_at_call 11; refine (Tiles_yes _ _ _ _ _ _ _ HO.out HN.out HM.out).mono ?_; rintro e w1 ⟨rfl, hb1⟩; obtain ⟨hc1, hf1, hz1⟩ := bcall hb1; (try simp only [World.size_alloc, World.size_setCell, World.size_drew] at hz1); have hs1_0 : w.heap.size < w1.heap.size := (by omega); have hs1_1 : w.heap.size + 1 < w1.heap.size := (by omega))
      exact bodyPost_ret (v := .tuple #[.agg #[.int .i64 0, .int .i64 0, .int .i64 0, .int .i64 0], .bool false]) (by simp [results, Try.results13, go_sem, *]) rfl ⟨by rw [HZ.out, HH.out]; rfl, (by repeat (first | exact Below.refl _ _ | apply Below.drew | apply below_drewN | (refine Below.alloc ?_ ?_ _; rotate_left; (first | omega | (simp only [World.size_alloc, World.size_setCell, World.size_drew]; omega))) | (refine Below.setCell ?_ ?_ _; rotate_left; (first | omega | (simp only [World.size_alloc, World.size_setCell, World.size_drew]; omega))) | (refine below_step ?_ (by assumption) ?_; rotate_left; (first | omega | (simp only [World.size_alloc, World.size_setCell, World.size_drew]; omega))) | assumption))⟩

end Go.Proofs.Ytoljdijpmnadpaa
