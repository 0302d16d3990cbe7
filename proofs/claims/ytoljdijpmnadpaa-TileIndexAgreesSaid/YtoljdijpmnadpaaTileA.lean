/-
  Walks: the counts and rectangles of tiles, of package tile and of its reference.
-/
import Derived.Test.YtoljdijpmnadpaaRectA
import Derived.Test.YtoljdijpmnadpaaTileM
namespace Go.Proofs.Ytoljdijpmnadpaa
open Go.RowKit
set_option linter.unusedVariables false
set_option linter.unusedSimpArgs false

theorem ret3_eq {x x' y y' : Int} {b b' : Bool} (h1 : x = x') (h2 : y = y') (h3 : b = b') :
    Ending.returned (.tuple #[.int .i64 x, .int .i64 y, .bool b]) = Ending.returned (.tuple #[.int .i64 x', .int .i64 y', .bool b']) := by rw [h1, h2, h3]
theorem cnt_no {r : Rc} {w h : Int} (ho : tOk r w h = false) : 0 = cNx r w h ∧ 0 = cNy r w h ∧ false = tOk r w h := by simp [cNx, cNy, ho]
theorem tOk_no {r : Rc} {w h : Int} (hn : r.empty = true ∨ w < 1 ∨ r.c - r.a < w ∨ h < 1 ∨ r.d - r.b < h) : tOk r w h = false := by
  cases hh : tOk r w h with
  | false => rfl
  | true =>
    obtain ⟨h0, h1, h2, h3, h4, _⟩ := tOk_true hh
    rcases hn with e | e
    · rw [h0] at e; cases e
    · omega
theorem tOk_yes {r : Rc} {w h : Int} (h0 : r.empty = false) (h1 : 1 ≤ w) (h2 : w ≤ r.c - r.a) (h3 : 1 ≤ h) (h4 : h ≤ r.d - r.b) : tOk r w h = true := by
  simp [tOk, h0, h1, h2, h3, h4]
theorem cnt_yes {r : Rc} {w h : Int} (ho : tOk r w h = true) : (r.c - r.a + w - 1) / w = cNx r w h ∧ (r.d - r.b + h - 1) / h = cNy r w h ∧ (r.c - r.a - 1) / w + 1 = cNx r w h ∧ (r.d - r.b - 1) / h + 1 = cNy r w h ∧ true = tOk r w h := by
  obtain ⟨h0, h1, h2, h3, h4, _⟩ := tOk_true ho
  simp [cNx, cNy, ho, tNx, tNy, div_up h1, div_up h3]

theorem Empty_is (a b c d : Int) (w : World) {o : Bool} (h : Rc.empty ⟨a, b, c, d⟩ = o) :
    Calls Try.prog 26 #[.agg #[.int .i64 a, .int .i64 b, .int .i64 c, .int .i64 d]] w fun e w' => e = .returned (.bool o) ∧ Below w.heap.size w w' := by
  subst h; exact Empty_any a b c d w
theorem EmptyR_is (a b c d : Int) (w : World) {o : Bool} (h : Rc.empty ⟨a, b, c, d⟩ = o) :
    Calls Try.prog 27 #[.agg #[.int .i64 a, .int .i64 b, .int .i64 c, .int .i64 d]] w fun e w' => e = .returned (.bool o) ∧ Below w.heap.size w w' := by
  subst h; exact EmptyR_any a b c d w

set_option maxHeartbeats 400000 in
theorem Count_any (a b c d x y : Int) (w : World) :
    Calls Try.prog 10 #[.agg #[.int .i64 a, .int .i64 b, .int .i64 c, .int .i64 d], .int .i64 x, .int .i64 y] w fun e w' => e = .returned (.tuple #[.int .i64 (cNx ⟨a, b, c, d⟩ x y), .int .i64 (cNy ⟨a, b, c, d⟩ x y), .bool (tOk ⟨a, b, c, d⟩ x y)]) ∧ Below w.heap.size w w' := by
  by_cases h0 : (Rc.empty ⟨a, b, c, d⟩) = true
  · go_enter Try.func10, Try.ntmps10
    go_wp2_with (go_at_call 26; refine (Empty_is _ _ _ _ _ h0).mono ?_; rintro e w1 ⟨rfl, hb1⟩; obtain ⟨hc1, hf1, hz1⟩ := bcall hb1; (try simp only [World.size_alloc, World.size_setCell, World.size_drew] at hz1); have hs1_0 : w.heap.size < w1.heap.size := (by omega))
    go_ret3
    exact ⟨ret3_eq (cnt_no (tOk_no (by first | exact .inl (by assumption) | exact .inr (by simp; omega)))).1 (cnt_no (tOk_no (by first | exact .inl (by assumption) | exact .inr (by simp; omega)))).2.1 (cnt_no (tOk_no (by first | exact .inl (by assumption) | exact .inr (by simp; omega)))).2.2, (by repeat (first | exact Below.refl _ _ | apply Below.drew | apply below_drewN | (refine Below.alloc ?_ ?_ _; rotate_left; (first | omega | (simp only [World.size_alloc, World.size_setCell, World.size_drew]; omega))) | (refine Below.setCell ?_ ?_ _; rotate_left; (first | omega | (simp only [World.size_alloc, World.size_setCell, World.size_drew]; omega))) | (refine below_step ?_ (by assumption) ?_; rotate_left; (first | omega | (simp only [World.size_alloc, World.size_setCell, World.size_drew]; omega))) | assumption))⟩
  have h0 : (Rc.empty ⟨a, b, c, d⟩) = false := by simpa using h0
  obtain ⟨e1, e2, e3, e4, e5, e6⟩ := Rc.empty_false h0
  simp only at e1 e2 e3 e4 e5 e6
  by_cases h1 : x < 1
  · go_enter Try.func10, Try.ntmps10
    go_wp2_with (go_at_call 26; refine (Empty_is _ _ _ _ _ h0).mono ?_; rintro e w1 ⟨rfl, hb1⟩; obtain ⟨hc1, hf1, hz1⟩ := bcall hb1; (try simp only [World.size_alloc, World.size_setCell, World.size_drew] at hz1); have hs1_0 : w.heap.size < w1.heap.size := (by omega))
    go_quiet (fail)
    go_wp2
    go_ret3
    exact ⟨ret3_eq (cnt_no (tOk_no (by first | exact .inl (by assumption) | exact .inr (by simp; omega)))).1 (cnt_no (tOk_no (by first | exact .inl (by assumption) | exact .inr (by simp; omega)))).2.1 (cnt_no (tOk_no (by first | exact .inl (by assumption) | exact .inr (by simp; omega)))).2.2, (by repeat (first | exact Below.refl _ _ | apply Below.drew | apply below_drewN | (refine Below.alloc ?_ ?_ _; rotate_left; (first | omega | (simp only [World.size_alloc, World.size_setCell, World.size_drew]; omega))) | (refine Below.setCell ?_ ?_ _; rotate_left; (first | omega | (simp only [World.size_alloc, World.size_setCell, World.size_drew]; omega))) | (refine below_step ?_ (by assumption) ?_; rotate_left; (first | omega | (simp only [World.size_alloc, World.size_setCell, World.size_drew]; omega))) | assumption))⟩
  by_cases h2 : c - a < x
  · go_enter Try.func10, Try.ntmps10
    go_wp2_with (go_at_call 26; refine (Empty_is _ _ _ _ _ h0).mono ?_; rintro e w1 ⟨rfl, hb1⟩; obtain ⟨hc1, hf1, hz1⟩ := bcall hb1; (try simp only [World.size_alloc, World.size_setCell, World.size_drew] at hz1); have hs1_0 : w.heap.size < w1.heap.size := (by omega))
    go_quiet (fail)
    go_wp2
    go_ret3
    exact ⟨ret3_eq (cnt_no (tOk_no (by first | exact .inl (by assumption) | exact .inr (by simp; omega)))).1 (cnt_no (tOk_no (by first | exact .inl (by assumption) | exact .inr (by simp; omega)))).2.1 (cnt_no (tOk_no (by first | exact .inl (by assumption) | exact .inr (by simp; omega)))).2.2, (by repeat (first | exact Below.refl _ _ | apply Below.drew | apply below_drewN | (refine Below.alloc ?_ ?_ _; rotate_left; (first | omega | (simp only [World.size_alloc, World.size_setCell, World.size_drew]; omega))) | (refine Below.setCell ?_ ?_ _; rotate_left; (first | omega | (simp only [World.size_alloc, World.size_setCell, World.size_drew]; omega))) | (refine below_step ?_ (by assumption) ?_; rotate_left; (first | omega | (simp only [World.size_alloc, World.size_setCell, World.size_drew]; omega))) | assumption))⟩
  by_cases h3 : y < 1
  · go_enter Try.func10, Try.ntmps10
    go_wp2_with (go_at_call 26; refine (Empty_is _ _ _ _ _ h0).mono ?_; rintro e w1 ⟨rfl, hb1⟩; obtain ⟨hc1, hf1, hz1⟩ := bcall hb1; (try simp only [World.size_alloc, World.size_setCell, World.size_drew] at hz1); have hs1_0 : w.heap.size < w1.heap.size := (by omega))
    go_quiet (fail)
    go_wp2
    go_ret3
    exact ⟨ret3_eq (cnt_no (tOk_no (by first | exact .inl (by assumption) | exact .inr (by simp; omega)))).1 (cnt_no (tOk_no (by first | exact .inl (by assumption) | exact .inr (by simp; omega)))).2.1 (cnt_no (tOk_no (by first | exact .inl (by assumption) | exact .inr (by simp; omega)))).2.2, (by repeat (first | exact Below.refl _ _ | apply Below.drew | apply below_drewN | (refine Below.alloc ?_ ?_ _; rotate_left; (first | omega | (simp only [World.size_alloc, World.size_setCell, World.size_drew]; omega))) | (refine Below.setCell ?_ ?_ _; rotate_left; (first | omega | (simp only [World.size_alloc, World.size_setCell, World.size_drew]; omega))) | (refine below_step ?_ (by assumption) ?_; rotate_left; (first | omega | (simp only [World.size_alloc, World.size_setCell, World.size_drew]; omega))) | assumption))⟩
  by_cases h4 : d - b < y
  · go_enter Try.func10, Try.ntmps10
    go_wp2_with (go_at_call 26; refine (Empty_is _ _ _ _ _ h0).mono ?_; rintro e w1 ⟨rfl, hb1⟩; obtain ⟨hc1, hf1, hz1⟩ := bcall hb1; (try simp only [World.size_alloc, World.size_setCell, World.size_drew] at hz1); have hs1_0 : w.heap.size < w1.heap.size := (by omega))
    go_quiet (fail)
    go_wp2
    go_ret3
    exact ⟨ret3_eq (cnt_no (tOk_no (by first | exact .inl (by assumption) | exact .inr (by simp; omega)))).1 (cnt_no (tOk_no (by first | exact .inl (by assumption) | exact .inr (by simp; omega)))).2.1 (cnt_no (tOk_no (by first | exact .inl (by assumption) | exact .inr (by simp; omega)))).2.2, (by repeat (first | exact Below.refl _ _ | apply Below.drew | apply below_drewN | (refine Below.alloc ?_ ?_ _; rotate_left; (first | omega | (simp only [World.size_alloc, World.size_setCell, World.size_drew]; omega))) | (refine Below.setCell ?_ ?_ _; rotate_left; (first | omega | (simp only [World.size_alloc, World.size_setCell, World.size_drew]; omega))) | (refine below_step ?_ (by assumption) ?_; rotate_left; (first | omega | (simp only [World.size_alloc, World.size_setCell, World.size_drew]; omega))) | assumption))⟩
  have ho := tOk_yes (r := ⟨a, b, c, d⟩) h0 (show 1 ≤ x by omega) (show x ≤ c - a by omega) (show 1 ≤ y by omega) (show y ≤ d - b by omega)
  have HO := Lib.hid ho
  obtain ⟨q1, q2, _, _⟩ := div_bd (n := c - a - 1) (w := x) (by omega) (by omega)
  obtain ⟨q3, q4, _, _⟩ := div_bd (n := d - b - 1) (w := y) (by omega) (by omega)
  clear ho
  go_enter Try.func10, Try.ntmps10
  go_wp2_with (go_at_call 26; refine (Empty_is _ _ _ _ _ h0).mono ?_; rintro e w1 ⟨rfl, hb1⟩; obtain ⟨hc1, hf1, hz1⟩ := bcall hb1; (try simp only [World.size_alloc, World.size_setCell, World.size_drew] at hz1); have hs1_0 : w.heap.size < w1.heap.size := (by omega))
  go_quiet (fail)
  go_wp2
  go_quiet (fail)
  go_wp2
  go_ret3
  obtain ⟨y1, y2, y3, y4, y5⟩ := cnt_yes HO.out
  exact ⟨ret3_eq y1 y2 y5, (by repeat (first | exact Below.refl _ _ | apply Below.drew | apply below_drewN | (refine Below.alloc ?_ ?_ _; rotate_left; (first | omega | (simp only [World.size_alloc, World.size_setCell, World.size_drew]; omega))) | (refine Below.setCell ?_ ?_ _; rotate_left; (first | omega | (simp only [World.size_alloc, World.size_setCell, World.size_drew]; omega))) | (refine below_step ?_ (by assumption) ?_; rotate_left; (first | omega | (simp only [World.size_alloc, World.size_setCell, World.size_drew]; omega))) | assumption))⟩

set_option maxHeartbeats 400000 in
theorem Tiles_any (a b c d x y : Int) (w : World) :
    Calls Try.prog 11 #[.agg #[.int .i64 a, .int .i64 b, .int .i64 c, .int .i64 d], .int .i64 x, .int .i64 y] w fun e w' => e = .returned (.tuple #[.int .i64 (cNx ⟨a, b, c, d⟩ x y), .int .i64 (cNy ⟨a, b, c, d⟩ x y), .bool (tOk ⟨a, b, c, d⟩ x y)]) ∧ Below w.heap.size w w' := by
  by_cases h0 : (Rc.empty ⟨a, b, c, d⟩) = true
  · go_enter Try.func11, Try.ntmps11
    go_wp2_with (go_at_call 27; refine (EmptyR_is _ _ _ _ _ h0).mono ?_; rintro e w1 ⟨rfl, hb1⟩; obtain ⟨hc1, hf1, hz1⟩ := bcall hb1; (try simp only [World.size_alloc, World.size_setCell, World.size_drew] at hz1); have hs1_0 : w.heap.size < w1.heap.size := (by omega))
    go_ret3
    exact ⟨ret3_eq (cnt_no (tOk_no (by first | exact .inl (by assumption) | exact .inr (by simp; omega)))).1 (cnt_no (tOk_no (by first | exact .inl (by assumption) | exact .inr (by simp; omega)))).2.1 (cnt_no (tOk_no (by first | exact .inl (by assumption) | exact .inr (by simp; omega)))).2.2, (by repeat (first | exact Below.refl _ _ | apply Below.drew | apply below_drewN | (refine Below.alloc ?_ ?_ _; rotate_left; (first | omega | (simp only [World.size_alloc, World.size_setCell, World.size_drew]; omega))) | (refine Below.setCell ?_ ?_ _; rotate_left; (first | omega | (simp only [World.size_alloc, World.size_setCell, World.size_drew]; omega))) | (refine below_step ?_ (by assumption) ?_; rotate_left; (first | omega | (simp only [World.size_alloc, World.size_setCell, World.size_drew]; omega))) | assumption))⟩
  have h0 : (Rc.empty ⟨a, b, c, d⟩) = false := by simpa using h0
  obtain ⟨e1, e2, e3, e4, e5, e6⟩ := Rc.empty_false h0
  simp only at e1 e2 e3 e4 e5 e6
  by_cases h1 : x < 1
  · go_enter Try.func11, Try.ntmps11
    go_wp2_with (go_at_call 27; refine (EmptyR_is _ _ _ _ _ h0).mono ?_; rintro e w1 ⟨rfl, hb1⟩; obtain ⟨hc1, hf1, hz1⟩ := bcall hb1; (try simp only [World.size_alloc, World.size_setCell, World.size_drew] at hz1); have hs1_0 : w.heap.size < w1.heap.size := (by omega))
    skip
    go_wp2
    go_ret3
    exact ⟨ret3_eq (cnt_no (tOk_no (by first | exact .inl (by assumption) | exact .inr (by simp; omega)))).1 (cnt_no (tOk_no (by first | exact .inl (by assumption) | exact .inr (by simp; omega)))).2.1 (cnt_no (tOk_no (by first | exact .inl (by assumption) | exact .inr (by simp; omega)))).2.2, (by repeat (first | exact Below.refl _ _ | apply Below.drew | apply below_drewN | (refine Below.alloc ?_ ?_ _; rotate_left; (first | omega | (simp only [World.size_alloc, World.size_setCell, World.size_drew]; omega))) | (refine Below.setCell ?_ ?_ _; rotate_left; (first | omega | (simp only [World.size_alloc, World.size_setCell, World.size_drew]; omega))) | (refine below_step ?_ (by assumption) ?_; rotate_left; (first | omega | (simp only [World.size_alloc, World.size_setCell, World.size_drew]; omega))) | assumption))⟩
  by_cases h3 : y < 1
  · go_enter Try.func11, Try.ntmps11
    go_wp2_with (go_at_call 27; refine (EmptyR_is _ _ _ _ _ h0).mono ?_; rintro e w1 ⟨rfl, hb1⟩; obtain ⟨hc1, hf1, hz1⟩ := bcall hb1; (try simp only [World.size_alloc, World.size_setCell, World.size_drew] at hz1); have hs1_0 : w.heap.size < w1.heap.size := (by omega))
    skip
    go_wp2
    go_ret3
    exact ⟨ret3_eq (cnt_no (tOk_no (by first | exact .inl (by assumption) | exact .inr (by simp; omega)))).1 (cnt_no (tOk_no (by first | exact .inl (by assumption) | exact .inr (by simp; omega)))).2.1 (cnt_no (tOk_no (by first | exact .inl (by assumption) | exact .inr (by simp; omega)))).2.2, (by repeat (first | exact Below.refl _ _ | apply Below.drew | apply below_drewN | (refine Below.alloc ?_ ?_ _; rotate_left; (first | omega | (simp only [World.size_alloc, World.size_setCell, World.size_drew]; omega))) | (refine Below.setCell ?_ ?_ _; rotate_left; (first | omega | (simp only [World.size_alloc, World.size_setCell, World.size_drew]; omega))) | (refine below_step ?_ (by assumption) ?_; rotate_left; (first | omega | (simp only [World.size_alloc, World.size_setCell, World.size_drew]; omega))) | assumption))⟩
  by_cases h2 : c - a < x
  · go_enter Try.func11, Try.ntmps11
    go_wp2_with (go_at_call 27; refine (EmptyR_is _ _ _ _ _ h0).mono ?_; rintro e w1 ⟨rfl, hb1⟩; obtain ⟨hc1, hf1, hz1⟩ := bcall hb1; (try simp only [World.size_alloc, World.size_setCell, World.size_drew] at hz1); have hs1_0 : w.heap.size < w1.heap.size := (by omega))
    skip
    go_wp2
    go_ret3
    exact ⟨ret3_eq (cnt_no (tOk_no (by first | exact .inl (by assumption) | exact .inr (by simp; omega)))).1 (cnt_no (tOk_no (by first | exact .inl (by assumption) | exact .inr (by simp; omega)))).2.1 (cnt_no (tOk_no (by first | exact .inl (by assumption) | exact .inr (by simp; omega)))).2.2, (by repeat (first | exact Below.refl _ _ | apply Below.drew | apply below_drewN | (refine Below.alloc ?_ ?_ _; rotate_left; (first | omega | (simp only [World.size_alloc, World.size_setCell, World.size_drew]; omega))) | (refine Below.setCell ?_ ?_ _; rotate_left; (first | omega | (simp only [World.size_alloc, World.size_setCell, World.size_drew]; omega))) | (refine below_step ?_ (by assumption) ?_; rotate_left; (first | omega | (simp only [World.size_alloc, World.size_setCell, World.size_drew]; omega))) | assumption))⟩
  by_cases h4 : d - b < y
  · go_enter Try.func11, Try.ntmps11
    go_wp2_with (go_at_call 27; refine (EmptyR_is _ _ _ _ _ h0).mono ?_; rintro e w1 ⟨rfl, hb1⟩; obtain ⟨hc1, hf1, hz1⟩ := bcall hb1; (try simp only [World.size_alloc, World.size_setCell, World.size_drew] at hz1); have hs1_0 : w.heap.size < w1.heap.size := (by omega))
    skip
    go_wp2
    go_ret3
    exact ⟨ret3_eq (cnt_no (tOk_no (by first | exact .inl (by assumption) | exact .inr (by simp; omega)))).1 (cnt_no (tOk_no (by first | exact .inl (by assumption) | exact .inr (by simp; omega)))).2.1 (cnt_no (tOk_no (by first | exact .inl (by assumption) | exact .inr (by simp; omega)))).2.2, (by repeat (first | exact Below.refl _ _ | apply Below.drew | apply below_drewN | (refine Below.alloc ?_ ?_ _; rotate_left; (first | omega | (simp only [World.size_alloc, World.size_setCell, World.size_drew]; omega))) | (refine Below.setCell ?_ ?_ _; rotate_left; (first | omega | (simp only [World.size_alloc, World.size_setCell, World.size_drew]; omega))) | (refine below_step ?_ (by assumption) ?_; rotate_left; (first | omega | (simp only [World.size_alloc, World.size_setCell, World.size_drew]; omega))) | assumption))⟩
  have ho := tOk_yes (r := ⟨a, b, c, d⟩) h0 (show 1 ≤ x by omega) (show x ≤ c - a by omega) (show 1 ≤ y by omega) (show y ≤ d - b by omega)
  have HO := Lib.hid ho
  obtain ⟨q1, q2, _, _⟩ := div_bd (n := c - a - 1) (w := x) (by omega) (by omega)
  obtain ⟨q3, q4, _, _⟩ := div_bd (n := d - b - 1) (w := y) (by omega) (by omega)
  clear ho
  go_enter Try.func11, Try.ntmps11
  go_wp2_with (go_at_call 27; refine (EmptyR_is _ _ _ _ _ h0).mono ?_; rintro e w1 ⟨rfl, hb1⟩; obtain ⟨hc1, hf1, hz1⟩ := bcall hb1; (try simp only [World.size_alloc, World.size_setCell, World.size_drew] at hz1); have hs1_0 : w.heap.size < w1.heap.size := (by omega))
  skip
  go_wp2
  go_quiet (fail)
  go_wp2
  go_ret3
  obtain ⟨y1, y2, y3, y4, y5⟩ := cnt_yes HO.out
  exact ⟨ret3_eq y3 y4 y5, (by repeat (first | exact Below.refl _ _ | apply Below.drew | apply below_drewN | (refine Below.alloc ?_ ?_ _; rotate_left; (first | omega | (simp only [World.size_alloc, World.size_setCell, World.size_drew]; omega))) | (refine Below.setCell ?_ ?_ _; rotate_left; (first | omega | (simp only [World.size_alloc, World.size_setCell, World.size_drew]; omega))) | (refine below_step ?_ (by assumption) ?_; rotate_left; (first | omega | (simp only [World.size_alloc, World.size_setCell, World.size_drew]; omega))) | assumption))⟩

end Go.Proofs.Ytoljdijpmnadpaa
