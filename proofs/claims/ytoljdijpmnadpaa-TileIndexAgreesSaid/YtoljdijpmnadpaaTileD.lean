/-
  Walks: which tile contains a point, of package tile and of its reference.
-/
import Derived.Test.YtoljdijpmnadpaaTileB
namespace Go.Proofs.Ytoljdijpmnadpaa
open Go.RowKit
set_option linter.unusedVariables false
set_option linter.unusedSimpArgs false

theorem ret2_eq {x x' : Int} {b b' : Bool} (h1 : x = x') (h3 : b = b') :
    Ending.returned (.tuple #[.int .i64 x, .bool b]) = Ending.returned (.tuple #[.int .i64 x', .bool b']) := by rw [h1, h3]
theorem has_bd {r : Rc} {x y : Int} (h : r.has x y = true) : r.a ≤ x ∧ x < r.c ∧ r.b ≤ y ∧ y < r.d := by
  simp only [Rc.has, Bool.and_eq_true, decide_eq_true_eq] at h
  omega
theorem idx_no {r : Rc} {w h x y : Int} (hh : tIdxOk r w h x y = false) : tIdx r w h x y = 0 := by simp [tIdx, hh]
theorem idx_yes {r : Rc} {w h x y : Int} (hh : tIdxOk r w h x y = true) : tIdx r w h x y = (y - r.b) / h * tNx r w + (x - r.a) / w := by simp [tIdx, hh]
theorem idx_bd {r : Rc} {w h x y : Int} (ho : tOk r w h = true) (hh : r.has x y = true) :
    0 ≤ (y - r.b) / h ∧ (y - r.b) / h ≤ tNy r h - 1 ∧ 0 ≤ (x - r.a) / w ∧ (x - r.a) / w ≤ tNx r w - 1 := by
  obtain ⟨_, g1, g2, g3, g4, a1, a2, a3, a4, a5, a6⟩ := tOk_true ho
  obtain ⟨b1, b2, b3, b4⟩ := has_bd hh
  have c1 := Int.ediv_nonneg (show 0 ≤ y - r.b by omega) (show 0 ≤ h by omega)
  have c2 := Int.ediv_nonneg (show 0 ≤ x - r.a by omega) (show 0 ≤ w by omega)
  have c3 : (y - r.b) / h ≤ (r.d - r.b - 1) / h := Int.ediv_le_ediv (by omega) (by omega)
  have c4 : (x - r.a) / w ≤ (r.c - r.a - 1) / w := Int.ediv_le_ediv (by omega) (by omega)
  unfold tNx tNy
  omega
theorem Contains_is (a b c d x y : Int) (w : World) {o : Bool} (h : Rc.has ⟨a, b, c, d⟩ x y = o) :
    Calls Try.prog 28 #[.agg #[.int .i64 a, .int .i64 b, .int .i64 c, .int .i64 d], .int .i64 x, .int .i64 y] w fun e w' => e = .returned (.bool o) ∧ Below w.heap.size w w' := by
  subst h; exact Contains_any a b c d x y w
theorem ContainsR_is (a b c d x y : Int) (w : World) {o : Bool} (h : Rc.has ⟨a, b, c, d⟩ x y = o) :
    Calls Try.prog 20 #[.agg #[.int .i64 a, .int .i64 b, .int .i64 c, .int .i64 d], .int .i64 x, .int .i64 y] w fun e w' => e = .returned (.bool o) ∧ Below w.heap.size w w' := by
  subst h; exact ContainsR_any a b c d x y w

set_option maxHeartbeats 1000000 in
theorem Index_any (a b c d x y px py : Int) (w : World) (lx : -9223372036854775808 ≤ px) (hx : px ≤ 9223372036854775807) (ly : -9223372036854775808 ≤ py) (hy : py ≤ 9223372036854775807) :
    Calls Try.prog 15 #[.agg #[.int .i64 a, .int .i64 b, .int .i64 c, .int .i64 d], .int .i64 x, .int .i64 y, .int .i64 px, .int .i64 py] w fun e w' => e = .returned (.tuple #[.int .i64 (tIdx ⟨a, b, c, d⟩ x y px py), .bool (tIdxOk ⟨a, b, c, d⟩ x y px py)]) ∧ Below w.heap.size w w' := by
  cases ho : tOk ⟨a, b, c, d⟩ x y with
  | false =>
    have hh : tIdxOk ⟨a, b, c, d⟩ x y px py = false := by simp [tIdxOk, ho]
    have HZ := Lib.hid (idx_no hh)
    have HH := Lib.hid hh
    clear hh
    go_enter Try.func15, Try.ntmps15
    go_wp2_with (go_at_call 10; refine (Count_no _ _ _ _ _ _ _ ho).mono ?_; rintro e w1 ⟨rfl, hb1⟩; obtain ⟨hc1, hf1, hz1⟩ := bcall hb1; (try simp only [World.size_alloc, World.size_setCell, World.size_drew] at hz1); have hs1_0 : w.heap.size < w1.heap.size := (by omega))
    go_ret2
    exact ⟨ret2_eq HZ.out.symm HH.out.symm, (by repeat (first | exact Below.refl _ _ | apply Below.drew | apply below_drewN | (refine Below.alloc ?_ ?_ _; rotate_left; (first | omega | (simp only [World.size_alloc, World.size_setCell, World.size_drew]; omega))) | (refine Below.setCell ?_ ?_ _; rotate_left; (first | omega | (simp only [World.size_alloc, World.size_setCell, World.size_drew]; omega))) | (refine below_step ?_ (by assumption) ?_; rotate_left; (first | omega | (simp only [World.size_alloc, World.size_setCell, World.size_drew]; omega))) | assumption))⟩
  | true =>
    cases hc : Rc.has ⟨a, b, c, d⟩ px py with
    | false =>
      have hh : tIdxOk ⟨a, b, c, d⟩ x y px py = false := by simp [tIdxOk, hc]
      have HZ := Lib.hid (idx_no hh)
      have HH := Lib.hid hh
      have HO := Lib.hid ho
      have HC := Lib.hid hc
      have HN := Lib.hid (rfl : tNx ⟨a, b, c, d⟩ x = tNx ⟨a, b, c, d⟩ x)
      have HM := Lib.hid (rfl : tNy ⟨a, b, c, d⟩ y = tNy ⟨a, b, c, d⟩ y)
      clear hh ho hc
      go_enter Try.func15, Try.ntmps15
      go_wp2_with (first | (go_at_call 10; refine (Count_yes _ _ _ _ _ _ _ HO.out HN.out HM.out).mono ?_; rintro e w1 ⟨rfl, hb1⟩; obtain ⟨hc1, hf1, hz1⟩ := bcall hb1; (try simp only [World.size_alloc, World.size_setCell, World.size_drew] at hz1); have hs1_0 : w.heap.size < w1.heap.size := (by omega)) | (go_at_call 28; refine (Contains_is _ _ _ _ _ _ _ HC.out).mono ?_; rintro e w2 ⟨rfl, hb2⟩; obtain ⟨hc2, hf2, hz2⟩ := bcall hb2; (try simp only [World.size_alloc, World.size_setCell, World.size_drew] at hz2); have hs2_0 : w.heap.size < w2.heap.size := (by omega)))
      go_ret2
      exact ⟨ret2_eq HZ.out.symm HH.out.symm, (by repeat (first | exact Below.refl _ _ | apply Below.drew | apply below_drewN | (refine Below.alloc ?_ ?_ _; rotate_left; (first | omega | (simp only [World.size_alloc, World.size_setCell, World.size_drew]; omega))) | (refine Below.setCell ?_ ?_ _; rotate_left; (first | omega | (simp only [World.size_alloc, World.size_setCell, World.size_drew]; omega))) | (refine below_step ?_ (by assumption) ?_; rotate_left; (first | omega | (simp only [World.size_alloc, World.size_setCell, World.size_drew]; omega))) | assumption))⟩
    | true =>
      have hh : tIdxOk ⟨a, b, c, d⟩ x y px py = true := by simp [tIdxOk, ho, hc]
      obtain ⟨b1, b2, b3, b4, _, _, _, _⟩ := nx_bd ho
      obtain ⟨_, g1, g2, g3, g4, a1, a2, a3, a4, a5, a6⟩ := tOk_true ho
      obtain ⟨p1, p2, p3, p4⟩ := has_bd hc
      obtain ⟨s1, s2, s3, s4⟩ := idx_bd ho hc
      simp only at g1 g2 g3 g4 a1 a2 a3 a4 a5 a6 p1 p2 p3 p4 s1 s2 s3 s4
      have HZ := Lib.hid (idx_yes hh)
      have HH := Lib.hid hh
      have HO := Lib.hid ho
      have HC := Lib.hid hc
      clear hh ho hc
      have nm1 := mul_bd (x := (py - b) / y) (y := tNx ⟨a, b, c, d⟩ x) (M := 2147483648) (by omega) (by omega) (by omega) (by omega)
      generalize hn : tNx ⟨a, b, c, d⟩ x = n at *
      generalize hm : tNy ⟨a, b, c, d⟩ y = m at *
      have HN := Lib.hid hn
      have HM := Lib.hid hm
      clear hn hm
      go_enter Try.func15, Try.ntmps15
      go_wp2_with (first | (go_at_call 10; refine (Count_yes _ _ _ _ _ _ _ HO.out HN.out HM.out).mono ?_; rintro e w1 ⟨rfl, hb1⟩; obtain ⟨hc1, hf1, hz1⟩ := bcall hb1; (try simp only [World.size_alloc, World.size_setCell, World.size_drew] at hz1); have hs1_0 : w.heap.size < w1.heap.size := (by omega)) | (go_at_call 28; refine (Contains_is _ _ _ _ _ _ _ HC.out).mono ?_; rintro e w2 ⟨rfl, hb2⟩; obtain ⟨hc2, hf2, hz2⟩ := bcall hb2; (try simp only [World.size_alloc, World.size_setCell, World.size_drew] at hz2); have hs2_0 : w.heap.size < w2.heap.size := (by omega)))
      go_quiet (fail)
      go_wp2
      go_ret2
      exact ⟨ret2_eq (by rw [HZ.out]) HH.out.symm, (by repeat (first | exact Below.refl _ _ | apply Below.drew | apply below_drewN | (refine Below.alloc ?_ ?_ _; rotate_left; (first | omega | (simp only [World.size_alloc, World.size_setCell, World.size_drew]; omega))) | (refine Below.setCell ?_ ?_ _; rotate_left; (first | omega | (simp only [World.size_alloc, World.size_setCell, World.size_drew]; omega))) | (refine below_step ?_ (by assumption) ?_; rotate_left; (first | omega | (simp only [World.size_alloc, World.size_setCell, World.size_drew]; omega))) | assumption))⟩

set_option maxHeartbeats 1000000 in
theorem TileIndex_any (a b c d x y px py : Int) (w : World) (lx : -9223372036854775808 ≤ px) (hx : px ≤ 9223372036854775807) (ly : -9223372036854775808 ≤ py) (hy : py ≤ 9223372036854775807) :
    Calls Try.prog 16 #[.agg #[.int .i64 a, .int .i64 b, .int .i64 c, .int .i64 d], .int .i64 x, .int .i64 y, .int .i64 px, .int .i64 py] w fun e w' => e = .returned (.tuple #[.int .i64 (tIdx ⟨a, b, c, d⟩ x y px py), .bool (tIdxOk ⟨a, b, c, d⟩ x y px py)]) ∧ Below w.heap.size w w' := by
  cases ho : tOk ⟨a, b, c, d⟩ x y with
  | false =>
    have hh : tIdxOk ⟨a, b, c, d⟩ x y px py = false := by simp [tIdxOk, ho]
    have HZ := Lib.hid (idx_no hh)
    have HH := Lib.hid hh
    clear hh
    go_enter Try.func16, Try.ntmps16
    go_wp2_with (go_at_call 11; refine (Tiles_no _ _ _ _ _ _ _ ho).mono ?_; rintro e w1 ⟨rfl, hb1⟩; obtain ⟨hc1, hf1, hz1⟩ := bcall hb1; (try simp only [World.size_alloc, World.size_setCell, World.size_drew] at hz1); have hs1_0 : w.heap.size < w1.heap.size := (by omega))
    go_ret2
    exact ⟨ret2_eq HZ.out.symm HH.out.symm, (by repeat (first | exact Below.refl _ _ | apply Below.drew | apply below_drewN | (refine Below.alloc ?_ ?_ _; rotate_left; (first | omega | (simp only [World.size_alloc, World.size_setCell, World.size_drew]; omega))) | (refine Below.setCell ?_ ?_ _; rotate_left; (first | omega | (simp only [World.size_alloc, World.size_setCell, World.size_drew]; omega))) | (refine below_step ?_ (by assumption) ?_; rotate_left; (first | omega | (simp only [World.size_alloc, World.size_setCell, World.size_drew]; omega))) | assumption))⟩
  | true =>
    cases hc : Rc.has ⟨a, b, c, d⟩ px py with
    | false =>
      have hh : tIdxOk ⟨a, b, c, d⟩ x y px py = false := by simp [tIdxOk, hc]
      have HZ := Lib.hid (idx_no hh)
      have HH := Lib.hid hh
      have HO := Lib.hid ho
      have HC := Lib.hid hc
      have HN := Lib.hid (rfl : tNx ⟨a, b, c, d⟩ x = tNx ⟨a, b, c, d⟩ x)
      have HM := Lib.hid (rfl : tNy ⟨a, b, c, d⟩ y = tNy ⟨a, b, c, d⟩ y)
      clear hh ho hc
      go_enter Try.func16, Try.ntmps16
      go_wp2_with (first | (go_at_call 11; refine (Tiles_yes _ _ _ _ _ _ _ HO.out HN.out HM.out).mono ?_; rintro e w1 ⟨rfl, hb1⟩; obtain ⟨hc1, hf1, hz1⟩ := bcall hb1; (try simp only [World.size_alloc, World.size_setCell, World.size_drew] at hz1); have hs1_0 : w.heap.size < w1.heap.size := (by omega)) | (go_at_call 20; refine (ContainsR_is _ _ _ _ _ _ _ HC.out).mono ?_; rintro e w2 ⟨rfl, hb2⟩; obtain ⟨hc2, hf2, hz2⟩ := bcall hb2; (try simp only [World.size_alloc, World.size_setCell, World.size_drew] at hz2); have hs2_0 : w.heap.size < w2.heap.size := (by omega)))
      go_ret2
      exact ⟨ret2_eq HZ.out.symm HH.out.symm, (by repeat (first | exact Below.refl _ _ | apply Below.drew | apply below_drewN | (refine Below.alloc ?_ ?_ _; rotate_left; (first | omega | (simp only [World.size_alloc, World.size_setCell, World.size_drew]; omega))) | (refine Below.setCell ?_ ?_ _; rotate_left; (first | omega | (simp only [World.size_alloc, World.size_setCell, World.size_drew]; omega))) | (refine below_step ?_ (by assumption) ?_; rotate_left; (first | omega | (simp only [World.size_alloc, World.size_setCell, World.size_drew]; omega))) | assumption))⟩
    | true =>
      have hh : tIdxOk ⟨a, b, c, d⟩ x y px py = true := by simp [tIdxOk, ho, hc]
      obtain ⟨b1, b2, b3, b4, _, _, _, _⟩ := nx_bd ho
      obtain ⟨_, g1, g2, g3, g4, a1, a2, a3, a4, a5, a6⟩ := tOk_true ho
      obtain ⟨p1, p2, p3, p4⟩ := has_bd hc
      obtain ⟨s1, s2, s3, s4⟩ := idx_bd ho hc
      simp only at g1 g2 g3 g4 a1 a2 a3 a4 a5 a6 p1 p2 p3 p4 s1 s2 s3 s4
      have HZ := Lib.hid (idx_yes hh)
      have HH := Lib.hid hh
      have HO := Lib.hid ho
      have HC := Lib.hid hc
      clear hh ho hc
      have nm1 := mul_bd (x := (py - b) / y) (y := tNx ⟨a, b, c, d⟩ x) (M := 2147483648) (by omega) (by omega) (by omega) (by omega)
      generalize hn : tNx ⟨a, b, c, d⟩ x = n at *
      generalize hm : tNy ⟨a, b, c, d⟩ y = m at *
      have HN := Lib.hid hn
      have HM := Lib.hid hm
      clear hn hm
      go_enter Try.func16, Try.ntmps16
      go_wp2_with (first | (go_at_call 11; refine (Tiles_yes _ _ _ _ _ _ _ HO.out HN.out HM.out).mono ?_; rintro e w1 ⟨rfl, hb1⟩; obtain ⟨hc1, hf1, hz1⟩ := bcall hb1; (try simp only [World.size_alloc, World.size_setCell, World.size_drew] at hz1); have hs1_0 : w.heap.size < w1.heap.size := (by omega)) | (go_at_call 20; refine (ContainsR_is _ _ _ _ _ _ _ HC.out).mono ?_; rintro e w2 ⟨rfl, hb2⟩; obtain ⟨hc2, hf2, hz2⟩ := bcall hb2; (try simp only [World.size_alloc, World.size_setCell, World.size_drew] at hz2); have hs2_0 : w.heap.size < w2.heap.size := (by omega)))
      go_quiet (fail)
      go_wp2
      go_ret2
      exact ⟨ret2_eq (by rw [HZ.out]) HH.out.symm, (by repeat (first | exact Below.refl _ _ | apply Below.drew | apply below_drewN | (refine Below.alloc ?_ ?_ _; rotate_left; (first | omega | (simp only [World.size_alloc, World.size_setCell, World.size_drew]; omega))) | (refine Below.setCell ?_ ?_ _; rotate_left; (first | omega | (simp only [World.size_alloc, World.size_setCell, World.size_drew]; omega))) | (refine below_step ?_ (by assumption) ?_; rotate_left; (first | omega | (simp only [World.size_alloc, World.size_setCell, World.size_drew]; omega))) | assumption))⟩

end Go.Proofs.Ytoljdijpmnadpaa
