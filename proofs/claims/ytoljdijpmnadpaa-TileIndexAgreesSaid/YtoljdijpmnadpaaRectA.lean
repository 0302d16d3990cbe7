/-
  Walks: the functions of package rect and of its reference that answer of one or two rectangles.
-/
import Derived.Test.YtoljdijpmnadpaaRows
import Derived.Test.YtoljdijpmnadpaaBase
namespace Go.Proofs.Ytoljdijpmnadpaa
open Go.RowKit
set_option linter.unusedVariables false
set_option linter.unusedSimpArgs false

theorem all_of {xs : List Int} {lim : Int} (h : ∀ j, j < xs.length → (-lim ≤ xs.getD j 0 ∧ xs.getD j 0 ≤ lim)) : (xs.all fun v => decide (-lim ≤ v) && decide (v ≤ lim)) = true := by
  rw [List.all_eq_true]
  intro v hv
  obtain ⟨i, hi, rfl⟩ := List.getElem_of_mem hv
  have := h i hi
  simp [List.getD, hi] at this
  simp [this]
theorem all_not {xs : List Int} {lim : Int} {k : Nat} (hk : k < xs.length) (h : xs[k] < -lim ∨ lim < xs[k]) : false = (xs.all fun v => decide (-lim ≤ v) && decide (v ≤ lim)) := by
  symm
  rw [List.all_eq_false]
  exact ⟨xs[k], List.getElem_mem hk, by simp; omega⟩
theorem all_step {xs : List Int} {lim : Int} {k : Nat} (hk : k < xs.length) (h : ∀ j, j < k → (-lim ≤ xs.getD j 0 ∧ xs.getD j 0 ≤ lim)) (h1 : ¬ xs[k] < -lim) (h2 : ¬ lim < xs[k]) :
    ∀ j, j < k + 1 → (-lim ≤ xs.getD j 0 ∧ xs.getD j 0 ≤ lim) := by
  intro j hj
  rcases Nat.lt_or_ge j k with hlt | hge
  · exact h j hlt
  · obtain rfl : j = k := by omega
    simp [List.getD, hk]; omega

set_option maxHeartbeats 400000 in
theorem within_any (lim : Int) (b : Nat) (xs : List Int) (w : World) (hn : (xs.length : Int) ≤ 1000) (hl : 0 ≤ lim) (hl' : lim ≤ 4611686018427387904)
    (hc : ∀ i, i < xs.length → w.cell? ⟨b, i, none⟩ = some (.int .i64 (xs.getD i 0))) :
    Calls Try.prog 34 #[.int .i64 lim, .slice (some ⟨b, 0, none⟩) xs.length xs.length] w fun e w' => e = .returned (.bool (xs.all fun v => decide (-lim ≤ v) && decide (v ≤ lim))) ∧ w = w' := by
  go_enter Try.func34, Try.ntmps34
  go_wp2
  go_loop [9] (fun i => ∃ k : Nat, k ≤ xs.length ∧ i = .int .i64 k ∧ ∀ j, j < k → (-lim ≤ xs.getD j 0 ∧ xs.getD j 0 ≤ lim)) (fun i => xs.length - (intOf i).toNat)
  case atStart => exact ⟨0, Nat.zero_le _, rfl, fun j h => absurd h (by omega)⟩
  case round =>
    obtain ⟨k, hk, rfl, hall⟩ := hrel
    have hall' := Lib.hid hall
    clear hall
    by_cases hlt : k < xs.length
    · have hcell := hc k hlt
      have hc' := Lib.hid hc
      clear hc
      have hel : xs.getD k 0 = xs[k] := by simp [List.getD, hlt]
      rw [hel] at hcell
      have hel' := Lib.hid hel
      clear hel
      by_cases h1 : xs[k] < -lim
      · go_wp2
        go_ret
        exact ⟨ret_bool (all_not hlt (.inl h1)), rfl⟩
      · by_cases h2 : lim < xs[k]
        · go_wp2
          go_ret
          exact ⟨ret_bool (all_not hlt (.inr h2)), rfl⟩
        · go_wp2
          go_round
          case rel => exact ⟨k + 1, by omega, by go_num, all_step hlt hall'.out h1 h2⟩
          case measure => simp [intOf]; omega
    · go_wp2
      go_ret
      exact ⟨ret_bool (all_of fun j hj => hall'.out j (by omega)).symm, rfl⟩

set_option maxHeartbeats 400000 in
theorem ValidRect_any (a b c d : Int) (w : World) :
    Calls Try.prog 33 #[.agg #[.int .i64 a, .int .i64 b, .int .i64 c, .int .i64 d]] w fun e w' => e = .returned (.bool (Rc.valid ⟨a, b, c, d⟩)) ∧ Below w.heap.size w w' := by
  go_enter Try.func33, Try.ntmps33
  go_wp2
  all_goals
    go_ret
    exact ⟨ret_bool (by rw [Bool.eq_iff_iff]; simp [Rc.valid, okC] <;> omega), (by repeat (first | exact Below.refl _ _ | apply Below.drew | apply below_drewN | (refine Below.alloc ?_ ?_ _; rotate_left; (first | omega | (simp only [World.size_alloc, World.size_setCell, World.size_drew]; omega))) | (refine Below.setCell ?_ ?_ _; rotate_left; (first | omega | (simp only [World.size_alloc, World.size_setCell, World.size_drew]; omega))) | (refine below_step ?_ (by assumption) ?_; rotate_left; (first | omega | (simp only [World.size_alloc, World.size_setCell, World.size_drew]; omega))) | assumption))⟩

set_option maxHeartbeats 400000 in
theorem Valid_any (a b c d : Int) (w : World) :
    Calls Try.prog 32 #[.agg #[.int .i64 a, .int .i64 b, .int .i64 c, .int .i64 d]] w fun e w' => e = .returned (.bool (Rc.valid ⟨a, b, c, d⟩)) ∧ Below w.heap.size w w' := by
  go_enter Try.func32, Try.ntmps32
  go_wp2_with (go_at_call 34; refine (within_any 1073741824 (w.heap.size + 1) [a, b, c, d] _ (by simp) (by omega) (by omega) ?_).mono ?_)
  · intro i hi
    match i, hi with
    | 0, _ => simp
    | 1, _ => simp
    | 2, _ => simp
    | 3, _ => simp
  rintro e w1 ⟨rfl, rfl⟩
  go_wp2
  go_ret
  exact ⟨ret_bool (by simp [Rc.valid, okC, Bool.and_assoc]), (by repeat (first | exact Below.refl _ _ | apply Below.drew | apply below_drewN | (refine Below.alloc ?_ ?_ _; rotate_left; (first | omega | (simp only [World.size_alloc, World.size_setCell, World.size_drew]; omega))) | (refine Below.setCell ?_ ?_ _; rotate_left; (first | omega | (simp only [World.size_alloc, World.size_setCell, World.size_drew]; omega))) | (refine below_step ?_ (by assumption) ?_; rotate_left; (first | omega | (simp only [World.size_alloc, World.size_setCell, World.size_drew]; omega))) | assumption))⟩

set_option maxHeartbeats 400000 in
theorem Empty_any (a b c d : Int) (w : World) :
    Calls Try.prog 26 #[.agg #[.int .i64 a, .int .i64 b, .int .i64 c, .int .i64 d]] w fun e w' => e = .returned (.bool (Rc.empty ⟨a, b, c, d⟩)) ∧ Below w.heap.size w w' := by
  go_enter Try.func26, Try.ntmps26
  go_wp2_with (go_at_call 32; refine (Valid_any _ _ _ _ _).mono ?_; rintro e w1 ⟨rfl, hb1⟩; obtain ⟨hc1, hf1, hz1⟩ := bcall hb1; (try simp only [World.size_alloc, World.size_setCell, World.size_drew] at hz1); have hs1_0 : w.heap.size < w1.heap.size := (by omega))
  all_goals
    rename_i hv
    go_ret
    exact ⟨ret_bool (by rw [Bool.eq_iff_iff]; simp [Rc.empty, *] <;> omega), (by repeat (first | exact Below.refl _ _ | apply Below.drew | apply below_drewN | (refine Below.alloc ?_ ?_ _; rotate_left; (first | omega | (simp only [World.size_alloc, World.size_setCell, World.size_drew]; omega))) | (refine Below.setCell ?_ ?_ _; rotate_left; (first | omega | (simp only [World.size_alloc, World.size_setCell, World.size_drew]; omega))) | (refine below_step ?_ (by assumption) ?_; rotate_left; (first | omega | (simp only [World.size_alloc, World.size_setCell, World.size_drew]; omega))) | assumption))⟩


set_option maxHeartbeats 400000 in
theorem Contains_any (a b c d x y : Int) (w : World) :
    Calls Try.prog 28 #[.agg #[.int .i64 a, .int .i64 b, .int .i64 c, .int .i64 d], .int .i64 x, .int .i64 y] w fun e w' => e = .returned (.bool (Rc.has ⟨a, b, c, d⟩ x y)) ∧ Below w.heap.size w w' := by
  go_enter Try.func28, Try.ntmps28
  go_wp2_with (go_at_call 26; refine (Empty_any _ _ _ _ _).mono ?_; rintro e w1 ⟨rfl, hb1⟩; obtain ⟨hc1, hf1, hz1⟩ := bcall hb1; (try simp only [World.size_alloc, World.size_setCell, World.size_drew] at hz1); have hs1_0 : w.heap.size < w1.heap.size := (by omega))
  all_goals
    rename_i hv
    go_ret
    exact ⟨ret_bool (by rw [Bool.eq_iff_iff]; simp [Rc.has, *] <;> omega), (by repeat (first | exact Below.refl _ _ | apply Below.drew | apply below_drewN | (refine Below.alloc ?_ ?_ _; rotate_left; (first | omega | (simp only [World.size_alloc, World.size_setCell, World.size_drew]; omega))) | (refine Below.setCell ?_ ?_ _; rotate_left; (first | omega | (simp only [World.size_alloc, World.size_setCell, World.size_drew]; omega))) | (refine below_step ?_ (by assumption) ?_; rotate_left; (first | omega | (simp only [World.size_alloc, World.size_setCell, World.size_drew]; omega))) | assumption))⟩

set_option maxHeartbeats 400000 in
theorem EmptyR_any (a b c d : Int) (w : World) :
    Calls Try.prog 27 #[.agg #[.int .i64 a, .int .i64 b, .int .i64 c, .int .i64 d]] w fun e w' => e = .returned (.bool (Rc.empty ⟨a, b, c, d⟩)) ∧ Below w.heap.size w w' := by
  go_enter Try.func27, Try.ntmps27
  go_wp2_with (go_at_call 33; refine (ValidRect_any _ _ _ _ _).mono ?_; rintro e w1 ⟨rfl, hb1⟩; obtain ⟨hc1, hf1, hz1⟩ := bcall hb1; (try simp only [World.size_alloc, World.size_setCell, World.size_drew] at hz1); have hs1_0 : w.heap.size < w1.heap.size := (by omega))
  all_goals
    rename_i hv
    go_ret
    exact ⟨ret_bool (by rw [Bool.eq_iff_iff]; simp [Rc.empty, *] <;> omega), (by repeat (first | exact Below.refl _ _ | apply Below.drew | apply below_drewN | (refine Below.alloc ?_ ?_ _; rotate_left; (first | omega | (simp only [World.size_alloc, World.size_setCell, World.size_drew]; omega))) | (refine Below.setCell ?_ ?_ _; rotate_left; (first | omega | (simp only [World.size_alloc, World.size_setCell, World.size_drew]; omega))) | (refine below_step ?_ (by assumption) ?_; rotate_left; (first | omega | (simp only [World.size_alloc, World.size_setCell, World.size_drew]; omega))) | assumption))⟩

set_option maxHeartbeats 400000 in
theorem cleanR_any (a b c d : Int) (w : World) :
    Calls Try.prog 30 #[.agg #[.int .i64 a, .int .i64 b, .int .i64 c, .int .i64 d]] w fun e w' => e = .returned (.agg #[.int .i64 (Rc.clean ⟨a, b, c, d⟩).a, .int .i64 (Rc.clean ⟨a, b, c, d⟩).b, .int .i64 (Rc.clean ⟨a, b, c, d⟩).c, .int .i64 (Rc.clean ⟨a, b, c, d⟩).d]) ∧ Below w.heap.size w w' := by
  go_enter Try.func30, Try.ntmps30
  go_wp2_with (go_at_call 27; refine (EmptyR_any _ _ _ _ _).mono ?_; rintro e w1 ⟨rfl, hb1⟩; obtain ⟨hc1, hf1, hz1⟩ := bcall hb1; (try simp only [World.size_alloc, World.size_setCell, World.size_drew] at hz1); have hs1_0 : w.heap.size < w1.heap.size := (by omega))
  all_goals
    rename_i hv
    exact bodyPost_ret (v := .agg #[.int .i64 (Rc.clean ⟨a, b, c, d⟩).a, .int .i64 (Rc.clean ⟨a, b, c, d⟩).b, .int .i64 (Rc.clean ⟨a, b, c, d⟩).c, .int .i64 (Rc.clean ⟨a, b, c, d⟩).d]) (by simp [results, Try.results30, go_sem, Rc.clean, Rc.zero, *]) rfl ⟨rfl, (by repeat (first | exact Below.refl _ _ | apply Below.drew | apply below_drewN | (refine Below.alloc ?_ ?_ _; rotate_left; (first | omega | (simp only [World.size_alloc, World.size_setCell, World.size_drew]; omega))) | (refine Below.setCell ?_ ?_ _; rotate_left; (first | omega | (simp only [World.size_alloc, World.size_setCell, World.size_drew]; omega))) | (refine below_step ?_ (by assumption) ?_; rotate_left; (first | omega | (simp only [World.size_alloc, World.size_setCell, World.size_drew]; omega))) | assumption))⟩


set_option maxHeartbeats 400000 in
theorem ContainsR_any (a b c d x y : Int) (w : World) :
    Calls Try.prog 20 #[.agg #[.int .i64 a, .int .i64 b, .int .i64 c, .int .i64 d], .int .i64 x, .int .i64 y] w fun e w' => e = .returned (.bool (Rc.has ⟨a, b, c, d⟩ x y)) ∧ Below w.heap.size w w' := by
  go_enter Try.func20, Try.ntmps20
  go_wp2_with (go_at_call 27; refine (EmptyR_any _ _ _ _ _).mono ?_; rintro e w1 ⟨rfl, hb1⟩; obtain ⟨hc1, hf1, hz1⟩ := bcall hb1; (try simp only [World.size_alloc, World.size_setCell, World.size_drew] at hz1); have hs1_0 : w.heap.size < w1.heap.size := (by omega))
  all_goals
    rename_i hv
    go_ret
    exact ⟨ret_bool (by rw [Bool.eq_iff_iff]; simp [Rc.has, *] <;> omega), (by repeat (first | exact Below.refl _ _ | apply Below.drew | apply below_drewN | (refine Below.alloc ?_ ?_ _; rotate_left; (first | omega | (simp only [World.size_alloc, World.size_setCell, World.size_drew]; omega))) | (refine Below.setCell ?_ ?_ _; rotate_left; (first | omega | (simp only [World.size_alloc, World.size_setCell, World.size_drew]; omega))) | (refine below_step ?_ (by assumption) ?_; rotate_left; (first | omega | (simp only [World.size_alloc, World.size_setCell, World.size_drew]; omega))) | assumption))⟩

set_option maxHeartbeats 400000 in
theorem AreaR_any (a b c d : Int) (w : World) :
    Calls Try.prog 21 #[.agg #[.int .i64 a, .int .i64 b, .int .i64 c, .int .i64 d]] w fun e w' => e = .returned (.int .i64 (Rc.area ⟨a, b, c, d⟩)) ∧ Below w.heap.size w w' := by
  go_enter Try.func21, Try.ntmps21
  go_wp2_with (go_at_call 30; refine (cleanR_any _ _ _ _ _).mono ?_; rintro e w1 ⟨rfl, hb1⟩; obtain ⟨hc1, hf1, hz1⟩ := bcall hb1; (try simp only [World.size_alloc, World.size_setCell, World.size_drew] at hz1); have hs1_0 : w.heap.size < w1.heap.size := (by omega))
  go_ret
  exact ⟨ret_int (Rc.area_wrap ⟨a, b, c, d⟩), (by repeat (first | exact Below.refl _ _ | apply Below.drew | apply below_drewN | (refine Below.alloc ?_ ?_ _; rotate_left; (first | omega | (simp only [World.size_alloc, World.size_setCell, World.size_drew]; omega))) | (refine Below.setCell ?_ ?_ _; rotate_left; (first | omega | (simp only [World.size_alloc, World.size_setCell, World.size_drew]; omega))) | (refine below_step ?_ (by assumption) ?_; rotate_left; (first | omega | (simp only [World.size_alloc, World.size_setCell, World.size_drew]; omega))) | assumption))⟩

end Go.Proofs.Ytoljdijpmnadpaa
