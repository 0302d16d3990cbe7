/-
  Walk: compositorref13.SamePlane.
-/
import Derived.Test.YtpdbiocegbimlaaPlA
namespace Go.Proofs.Ytpdbiocegbimlaa
open Go.RowKit
set_option linter.unusedVariables false
set_option linter.unusedSimpArgs false

def same_ (W H S W' H' S' : Int) (xs ys : List Int) : Bool := decide (W = W' ∧ H = H' ∧ S = S' ∧ xs = ys)
theorem agree_all {xs ys : List Int} (hl : xs.length = ys.length) (h : ∀ j, j < xs.length → xs[j]? = ys[j]?) : xs = ys := by
  apply List.ext_getElem? 
  intro i
  rcases Nat.lt_or_ge i xs.length with hi | hi
  · exact h i hi
  · rw [List.getElem?_eq_none hi, List.getElem?_eq_none (by omega)]

theorem same_no {W H S W' H' S' : Int} {xs ys : List Int} (h : ¬ W = W' ∨ ¬ H = H' ∨ ¬ S = S' ∨ ¬ xs = ys) : false = same_ W H S W' H' S' xs ys := by
  symm; unfold same_; rw [decide_eq_false_iff_not]; rintro ⟨a, b, c, d⟩
  rcases h with h | h | h | h <;> exact h (by assumption)
theorem list_ne {xs ys : List Int} {k : Nat} (h1 : k < xs.length) (h2 : k < ys.length) (h : ¬ xs[k] = ys[k]) : ¬ xs = ys := by rintro rfl; exact h rfl
theorem len_ne {xs ys : List Int} (h : ¬ xs.length = ys.length) : ¬ xs = ys := by rintro rfl; exact h rfl
def Agree (xs ys : List Int) (k : Nat) : Prop := ∀ j, j < k → xs[j]? = ys[j]?
theorem agree_step {xs ys : List Int} {k : Nat} (h : Agree xs ys k) (h1 : k < xs.length) (h2 : k < ys.length) (he : xs[k] = ys[k]) : Agree xs ys (k + 1) := by
  intro j hj
  rcases Nat.lt_or_ge j k with hlt | hge
  · exact h j hlt
  · obtain rfl : j = k := by omega
    rw [List.getElem?_eq_getElem h1, List.getElem?_eq_getElem h2, he]
theorem same_yes {W H S : Int} {xs ys : List Int} (h : xs = ys) : same_ W H S W H S xs ys = true := by simp [same_, h]
theorem sl_cell {w wr : World} {g off n k : Nat} {xs : List Int} {A : Option Addr} (h : Sl w 1 A n (us xs)) (hl : xs.length = n) (hk : k < n) (hA : A = some ⟨g, off, none⟩) (hb : Below w.heap.size w wr) :
    wr.cell? ⟨g, off + k, none⟩ = some (.int .u16 (xs[k]'(by omega))) := by
  obtain ⟨g', off', e, hg, hc⟩ := h.2 (by omega)
  rw [hA] at e
  cases e
  exact (hb.cell (p := ⟨g, off + k, none⟩) hg).trans (hc k _ (us_at (by omega)))

set_option maxHeartbeats 2000000 in
theorem SamePlane_any (W H S W' H' S' : Int) (A A' : Option Addr) (n c n' c' : Nat) (xs ys : List Int) (w : World) (hx : Sl w 1 A n (us xs)) (hy : Sl w 1 A' n' (us ys)) (hn : (n : Int) ≤ 9223372036854775807) :
    Calls Try.prog 15 #[.agg #[.int .i64 W, .int .i64 H, .int .i64 S, .slice A n c], .agg #[.int .i64 W', .int .i64 H', .int .i64 S', .slice A' n' c']] w fun e w' => e = .returned (.bool (same_ W H S W' H' S' xs ys)) ∧ Below w.heap.size w w' := by
  have lx : xs.length = n := by have := hx.1; rw [us_length] at this; omega
  have ly : ys.length = n' := by have := hy.1; rw [us_length] at this; omega
  by_cases h1 : W = W'
  · by_cases h2 : H = H'
    · by_cases h3 : S = S'
      · by_cases h4 : n = n'
        · subst h1 h2 h3 h4
          rcases hx.open_ with ⟨h0, hx0⟩ | ⟨h0, g, off, rfl, hg, hcx⟩
          · have hy0 : ys = [] := List.eq_nil_of_length_eq_zero (by omega)
            subst h0
            go_enter Try.func15, Try.ntmps15
            go_wp2
            refine wp_loop_rounds 1 ?_
            rw [rounds_succ]
            go_wp2
            go_ret
            exact ⟨ret_bool (same_yes ((List.eq_nil_of_length_eq_zero (by omega) : xs = []).trans hy0.symm)).symm, (by repeat (first | exact Below.refl _ _ | apply Below.drew | apply below_drewN | (refine Below.alloc ?_ ?_ _; rotate_left; (first | omega | (simp only [World.size_alloc, World.size_setCell, World.size_drew]; omega))) | (refine Below.setCell ?_ ?_ _; rotate_left; (first | omega | (simp only [World.size_alloc, World.size_setCell, World.size_drew]; omega))) | (refine below_step ?_ (by assumption) ?_; rotate_left; (first | omega | (simp only [World.size_alloc, World.size_setCell, World.size_drew]; omega))) | assumption))⟩
          · rcases hy.open_ with ⟨h0', _⟩ | ⟨_, g', off', rfl, hg', hcy⟩
            · omega
            have HX := Lib.hid hx
            have HY := Lib.hid hy
            have LX := Lib.hid lx
            have LY := Lib.hid ly
            clear hx hy hcx hcy lx ly
            go_enter Try.func15, Try.ntmps15
            go_wp2
            go_loopw [5] (fun i wr => ∃ k : Nat, k ≤ n ∧ i = .int .i64 k ∧ Agree xs ys k ∧ Own wr w.heap.size 24 #[.int .i64 W, .int .i64 H, .int .i64 S, .slice (some ⟨g, off, none⟩) n c] ∧
              Own wr (w.heap.size + 1) 24 #[.int .i64 W, .int .i64 H, .int .i64 S, .slice (some ⟨g', off', none⟩) n c'] ∧ Below w.heap.size w wr) (fun i _ => n - (intOf i).toNat)
            case atStart => exact ⟨0, Nat.zero_le _, rfl, fun j h => absurd h (by omega), (by (repeat (first | assumption | (refine Own.new_ _ _ _ ?_; (simp; done)) | apply Own.drew | apply Own.drewN | apply Own.alloc | (refine Own.far' ?_ ?_ _; rotate_left; omega) | apply Own.put | (refine Own.below ?_ ?_; rotate_left; assumption))); all_goals rfl), (by (repeat (first | assumption | (refine Own.new_ _ _ _ ?_; (simp; done)) | apply Own.drew | apply Own.drewN | apply Own.alloc | (refine Own.far' ?_ ?_ _; rotate_left; omega) | apply Own.put | (refine Own.below ?_ ?_; rotate_left; assumption))); all_goals rfl), (by repeat (first | exact Below.refl _ _ | apply Below.drew | apply below_drewN | (refine Below.alloc ?_ ?_ _; rotate_left; (first | omega | (simp only [World.size_alloc, World.size_setCell, World.size_drew]; omega))) | (refine Below.setCell ?_ ?_ _; rotate_left; (first | omega | (simp only [World.size_alloc, World.size_setCell, World.size_drew]; omega))) | (refine below_step ?_ (by assumption) ?_; rotate_left; (first | omega | (simp only [World.size_alloc, World.size_setCell, World.size_drew]; omega))) | assumption))⟩
            case round =>
              obtain ⟨k, hk, rfl, hag, o1, o2, bel⟩ := hrel
              have HA := Lib.hid hag
              clear hag
              have c1 := o1.cell
              have c2 := o2.cell
              by_cases hlt : k < n
              · have hx1 := sl_cell HX.out LX.out hlt rfl bel
                have hy1 := sl_cell HY.out LY.out hlt rfl bel
                by_cases he : xs[k]'(by have := LX.out; omega) = ys[k]'(by have := LY.out; omega)
                · go_wp2_with fail
                  go_quiet (fail)
                  go_wp2
                  exact ⟨⟨k + 1, by omega, by go_num, agree_step HA.out (by have := LX.out; omega) (by have := LY.out; omega) he, (by (repeat (first | assumption | (refine Own.new_ _ _ _ ?_; (simp; done)) | apply Own.drew | apply Own.drewN | apply Own.alloc | (refine Own.far' ?_ ?_ _; rotate_left; omega) | apply Own.put | (refine Own.below ?_ ?_; rotate_left; assumption))); all_goals rfl), (by (repeat (first | assumption | (refine Own.new_ _ _ _ ?_; (simp; done)) | apply Own.drew | apply Own.drewN | apply Own.alloc | (refine Own.far' ?_ ?_ _; rotate_left; omega) | apply Own.put | (refine Own.below ?_ ?_; rotate_left; assumption))); all_goals rfl), (by repeat (first | exact Below.refl _ _ | apply Below.drew | apply below_drewN | (refine Below.alloc ?_ ?_ _; rotate_left; (first | omega | (simp only [World.size_alloc, World.size_setCell, World.size_drew]; omega))) | (refine Below.setCell ?_ ?_ _; rotate_left; (first | omega | (simp only [World.size_alloc, World.size_setCell, World.size_drew]; omega))) | (refine below_step ?_ (by assumption) ?_; rotate_left; (first | omega | (simp only [World.size_alloc, World.size_setCell, World.size_drew]; omega))) | assumption))⟩, by simp [intOf]; omega⟩
                · have he' : ((xs[k]'(by have := LX.out; omega) : Int) == ys[k]'(by have := LY.out; omega)) = false := by simpa using he
                  go_wp2_with fail
                  go_quiet (fail)
                  go_wp2
                  go_ret
                  exact ⟨ret_bool (same_no (.inr (.inr (.inr (list_ne (by have := LX.out; omega) (by have := LY.out; omega) he))))), (by repeat (first | exact Below.refl _ _ | apply Below.drew | apply below_drewN | (refine Below.alloc ?_ ?_ _; rotate_left; (first | omega | (simp only [World.size_alloc, World.size_setCell, World.size_drew]; omega))) | (refine Below.setCell ?_ ?_ _; rotate_left; (first | omega | (simp only [World.size_alloc, World.size_setCell, World.size_drew]; omega))) | (refine below_step ?_ (by assumption) ?_; rotate_left; (first | omega | (simp only [World.size_alloc, World.size_setCell, World.size_drew]; omega))) | assumption))⟩
              · go_wp2
                go_ret
                exact ⟨ret_bool (same_yes (agree_all (by rw [LX.out, LY.out]) fun j hj => HA.out j (by have := LX.out; omega))).symm, (by repeat (first | exact Below.refl _ _ | apply Below.drew | apply below_drewN | (refine Below.alloc ?_ ?_ _; rotate_left; (first | omega | (simp only [World.size_alloc, World.size_setCell, World.size_drew]; omega))) | (refine Below.setCell ?_ ?_ _; rotate_left; (first | omega | (simp only [World.size_alloc, World.size_setCell, World.size_drew]; omega))) | (refine below_step ?_ (by assumption) ?_; rotate_left; (first | omega | (simp only [World.size_alloc, World.size_setCell, World.size_drew]; omega))) | assumption))⟩
        · have hb : (((n : Int) : Int) == (n' : Int)) = false := by simp; omega
          go_enter Try.func15, Try.ntmps15
          go_wp2
          go_ret
          exact ⟨ret_bool (same_no (.inr (.inr (.inr (len_ne (by omega)))))), (by repeat (first | exact Below.refl _ _ | apply Below.drew | apply below_drewN | (refine Below.alloc ?_ ?_ _; rotate_left; (first | omega | (simp only [World.size_alloc, World.size_setCell, World.size_drew]; omega))) | (refine Below.setCell ?_ ?_ _; rotate_left; (first | omega | (simp only [World.size_alloc, World.size_setCell, World.size_drew]; omega))) | (refine below_step ?_ (by assumption) ?_; rotate_left; (first | omega | (simp only [World.size_alloc, World.size_setCell, World.size_drew]; omega))) | assumption))⟩
      · have hb : ((S : Int) == S') = false := by simp; omega
        go_enter Try.func15, Try.ntmps15
        go_wp2
        go_ret
        exact ⟨ret_bool (same_no (.inr (.inr (.inl h3)))), (by repeat (first | exact Below.refl _ _ | apply Below.drew | apply below_drewN | (refine Below.alloc ?_ ?_ _; rotate_left; (first | omega | (simp only [World.size_alloc, World.size_setCell, World.size_drew]; omega))) | (refine Below.setCell ?_ ?_ _; rotate_left; (first | omega | (simp only [World.size_alloc, World.size_setCell, World.size_drew]; omega))) | (refine below_step ?_ (by assumption) ?_; rotate_left; (first | omega | (simp only [World.size_alloc, World.size_setCell, World.size_drew]; omega))) | assumption))⟩
    · have hb : ((H : Int) == H') = false := by simp; omega
      go_enter Try.func15, Try.ntmps15
      go_wp2
      go_ret
      exact ⟨ret_bool (same_no (.inr (.inl h2))), (by repeat (first | exact Below.refl _ _ | apply Below.drew | apply below_drewN | (refine Below.alloc ?_ ?_ _; rotate_left; (first | omega | (simp only [World.size_alloc, World.size_setCell, World.size_drew]; omega))) | (refine Below.setCell ?_ ?_ _; rotate_left; (first | omega | (simp only [World.size_alloc, World.size_setCell, World.size_drew]; omega))) | (refine below_step ?_ (by assumption) ?_; rotate_left; (first | omega | (simp only [World.size_alloc, World.size_setCell, World.size_drew]; omega))) | assumption))⟩
  · have hb : ((W : Int) == W') = false := by simp; omega
    go_enter Try.func15, Try.ntmps15
    go_wp2
    go_ret
    exact ⟨ret_bool (same_no (.inl h1)), (by repeat (first | exact Below.refl _ _ | apply Below.drew | apply below_drewN | (refine Below.alloc ?_ ?_ _; rotate_left; (first | omega | (simp only [World.size_alloc, World.size_setCell, World.size_drew]; omega))) | (refine Below.setCell ?_ ?_ _; rotate_left; (first | omega | (simp only [World.size_alloc, World.size_setCell, World.size_drew]; omega))) | (refine below_step ?_ (by assumption) ?_; rotate_left; (first | omega | (simp only [World.size_alloc, World.size_setCell, World.size_drew]; omega))) | assumption))⟩

end Go.Proofs.Ytpdbiocegbimlaa
