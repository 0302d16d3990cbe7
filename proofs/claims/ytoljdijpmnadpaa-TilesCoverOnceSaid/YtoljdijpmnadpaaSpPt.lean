/-
  Tiles of a small canvas, in plain words.
-/
import Derived.Test.YtoljdijpmnadpaaFnW
import Derived.Test.YtoljdijpmnadpaaSpB
namespace Go.Proofs.Ytoljdijpmnadpaa
open Go.RowKit
set_option linter.unusedVariables false
set_option linter.unusedSimpArgs false

def partRc (r : Rc) (n0 n1 n2 n3 : Int) : Rc :=
  let w := IntKind.wrap .i64 (r.c - r.a)
  let h := IntKind.wrap .i64 (r.d - r.b)
  let x := modS n0 w
  let y := modS n1 h
  ⟨IntKind.wrap .i64 (r.a + x), IntKind.wrap .i64 (r.b + y), IntKind.wrap .i64 (IntKind.wrap .i64 (IntKind.wrap .i64 (r.a + x) + 1) + modS n2 (IntKind.wrap .i64 (w - x))), IntKind.wrap .i64 (IntKind.wrap .i64 (IntKind.wrap .i64 (r.b + y) + 1) + modS n3 (IntKind.wrap .i64 (h - y)))⟩
def ptX (r : Rc) (x : Int) : Int := IntKind.wrap .i64 (r.a + modS x (IntKind.wrap .i64 (r.c - r.a)))
def ptY (r : Rc) (y : Int) : Int := IntKind.wrap .i64 (r.b + modS y (IntKind.wrap .i64 (r.d - r.b)))
def idxS (r : Rc) (w h x y : Int) : Int × Bool :=
  if (cntS r w h).2.2 && r.has x y then
    (IntKind.wrap .i64 (IntKind.wrap .i64 (IntKind.wrap .i64 (Int.tdiv (IntKind.wrap .i64 (y - r.b)) h) * (cntS r w h).1) + IntKind.wrap .i64 (Int.tdiv (IntKind.wrap .i64 (x - r.a)) w)), true)
  else (0, false)
theorem cntS_ne {r : Rc} {w h : Int} (hk : (cntS r w h).2.2 = true) : w ≠ 0 ∧ h ≠ 0 := by
  unfold cntS at hk
  split at hk
  · cases hk
  · split at hk
    · cases hk
    · omega
theorem modS_pos {n k : Int} (h1 : 1 ≤ k) (h2 : k ≤ 4611686018427387904) : 0 ≤ modS n k ∧ modS n k < k := by
  rw [modS_eq h1 h2]
  exact ⟨Int.emod_nonneg _ (by omega), Int.emod_lt_of_pos _ (by omega)⟩
/-- the canvas of the law: a part of a square of 12 -/
theorem part_six (n0 n1 n2 n3 : Int) : ∃ a b W H : Int, partRc ⟨-6, -6, 6, 6⟩ n0 n1 n2 n3 = ⟨a, b, a + W, b + H⟩ ∧ -6 ≤ a ∧ -6 ≤ b ∧ 1 ≤ W ∧ 1 ≤ H ∧ a + W ≤ 6 ∧ b + H ≤ 6 := by
  have x := @modS_pos n0 12 (by omega) (by omega)
  have y := @modS_pos n1 12 (by omega) (by omega)
  have p := @modS_pos n2 (12 - modS n0 12) (by omega) (by omega)
  have q := @modS_pos n3 (12 - modS n1 12) (by omega) (by omega)
  refine ⟨-6 + modS n0 12, -6 + modS n1 12, 1 + modS n2 (12 - modS n0 12), 1 + modS n3 (12 - modS n1 12), ?_, by omega, by omega, by omega, by omega, by omega, by omega⟩
  unfold partRc
  simp only [show IntKind.wrap .i64 (6 - -6) = 12 from by decide]
  rw [IntWalk.i64_in (-6 + modS n0 12) ⟨by omega, by omega⟩, IntWalk.i64_in (-6 + modS n1 12) ⟨by omega, by omega⟩, IntWalk.i64_in (12 - modS n0 12) ⟨by omega, by omega⟩, IntWalk.i64_in (12 - modS n1 12) ⟨by omega, by omega⟩, IntWalk.i64_in (-6 + modS n0 12 + 1) ⟨by omega, by omega⟩, IntWalk.i64_in (-6 + modS n1 12 + 1) ⟨by omega, by omega⟩, IntWalk.i64_in _ ⟨by omega, by omega⟩, IntWalk.i64_in _ ⟨by omega, by omega⟩]
  congr 1 <;> omega
theorem div_iff {P u x : Int} (hu : 1 ≤ u) : P / u = x ↔ x * u ≤ P ∧ P < x * u + u := by
  have h1 : x ≤ P / u ↔ x * u ≤ P := Int.le_ediv_iff_mul_le (by omega)
  have h2 : P / u < x + 1 ↔ P < (x + 1) * u := Int.ediv_lt_iff_lt_mul (by omega)
  rw [Int.add_mul, Int.one_mul] at h2
  omega
/-- how many tiles -/
theorem cnt_nat {W u : Int} (hu : 1 ≤ u ∧ u ≤ W) (hW : W ≤ 12) : ∃ N : Nat, (W + u - 1) / u = (N : Int) ∧ 1 ≤ N ∧ N ≤ 12 ∧ ∀ x : Nat, x < N → 0 ≤ (x : Int) * u ∧ (x : Int) * u < W ∧ ((x : Int) + 1 = N → W ≤ (x : Int) * u + u) ∧ ((x : Int) + 1 < N → (x : Int) * u + u ≤ W) := by
  obtain ⟨d1, d2⟩ := (div_iff (P := W + u - 1) (x := (W + u - 1) / u) hu.1).1 rfl
  generalize (W + u - 1) / u = q at *
  have q1 : 1 ≤ q := by
    by_cases h : 1 ≤ q
    · exact h
    · have : q * u ≤ 0 := Int.mul_nonpos_of_nonpos_of_nonneg (by omega) (by omega)
      omega
  have e1 : (q - 1) * u = q * u - u := by rw [Int.sub_mul, Int.one_mul]
  have q2 : q ≤ W := by
    have : (q - 1) * 1 ≤ (q - 1) * u := Int.mul_le_mul_of_nonneg_left (by omega) (by omega)
    omega
  refine ⟨q.toNat, by omega, by omega, by omega, fun x hx => ?_⟩
  have h1 : (x : Int) * u ≤ (q - 1) * u := Int.mul_le_mul_of_nonneg_right (by omega) (by omega)
  have h0 : 0 ≤ (x : Int) * u := Int.mul_nonneg (by omega) (by omega)
  refine ⟨h0, by omega, fun e => ?_, fun e => ?_⟩
  · have : (x : Int) = q - 1 := by omega
    rw [this]; omega
  · have h2 : ((x : Int) + 1) * u ≤ (q - 1) * u := Int.mul_le_mul_of_nonneg_right (by omega) (by omega)
    rw [Int.add_mul, Int.one_mul] at h2
    omega
theorem cnt_is {a b W H u v : Int} (ha : -6 ≤ a ∧ a + W ≤ 6) (hb : -6 ≤ b ∧ b + H ≤ 6) (hu : 1 ≤ u ∧ u ≤ W) (hv : 1 ≤ v ∧ v ≤ H) : cntS ⟨a, b, a + W, b + H⟩ u v = ((W + u - 1) / u, (H + v - 1) / v, true) := by
  have he : (⟨a, b, a + W, b + H⟩ : Rc).empty = false := (Rc.empty_iff _).2 (by simp only; omega)
  obtain ⟨N, hN, n1, n2, _⟩ := cnt_nat hu (by omega)
  obtain ⟨M, hM, m1, m2, _⟩ := cnt_nat hv (by omega)
  unfold cntS
  simp only [he]
  rw [show a + W - a = W from by omega, show b + H - b = H from by omega, IntWalk.i64_in W ⟨by omega, by omega⟩, IntWalk.i64_in H ⟨by omega, by omega⟩, IntWalk.i64_in (W + u) ⟨by omega, by omega⟩, IntWalk.i64_in (H + v) ⟨by omega, by omega⟩, IntWalk.i64_in (W + u - 1) ⟨by omega, by omega⟩, IntWalk.i64_in (H + v - 1) ⟨by omega, by omega⟩,
    Int.tdiv_eq_ediv_of_nonneg (by omega), Int.tdiv_eq_ediv_of_nonneg (by omega), hN, hM, IntWalk.i64_in (N : Int) ⟨by omega, by omega⟩, IntWalk.i64_in (M : Int) ⟨by omega, by omega⟩]
  rw [if_neg (by simp), if_neg (by omega)]
/-- tile x, y -/
def tileRc (a b W H u v : Int) (x y : Nat) : Rc := ⟨a + (x : Int) * u, b + (y : Int) * v, min (a + (x : Int) * u + u) (a + W), min (b + (y : Int) * v + v) (b + H)⟩
theorem rect_is {a b W H u v : Int} (ha : -6 ≤ a ∧ a + W ≤ 6) (hb : -6 ≤ b ∧ b + H ≤ 6) (hu : 1 ≤ u ∧ u ≤ W) (hv : 1 ≤ v ∧ v ≤ H) {N M : Nat} (hN : (W + u - 1) / u = (N : Int)) (hM : (H + v - 1) / v = (M : Int)) {k : Nat} (hk : k < N * M) :
    rectS ⟨a, b, a + W, b + H⟩ u v (k : Int) = (tileRc a b W H u v (k % N) (k / N), true) := by
  obtain ⟨N', hN', n1, n2, n3⟩ := cnt_nat hu (by omega)
  obtain ⟨M', hM', m1, m2, m3⟩ := cnt_nat hv (by omega)
  obtain rfl : N' = N := by omega
  obtain rfl : M' = M := by omega
  have hx := Nat.mod_lt k (show 0 < N' by omega)
  have hy : k / N' < M' := Nat.div_lt_of_lt_mul hk
  have k1 := n3 _ hx
  have k2 := m3 _ hy
  have ed : Int.tdiv (k : Int) (N' : Int) = ((k / N' : Nat) : Int) := by rw [Int.tdiv_eq_ediv_of_nonneg (by omega)]; rfl
  have em : Int.tmod (k : Int) (N' : Int) = ((k % N' : Nat) : Int) := by rw [Int.tmod_eq_emod_of_nonneg (by omega)]; rfl
  generalize k % N' = x at *
  generalize k / N' = y at *
  unfold rectS
  rw [cnt_is ha hb hu hv, hN, hM]
  simp only [ed, em]
  have w1 : IntKind.wrap .i64 (y : Int) = (y : Int) := IntWalk.i64_in _ ⟨by omega, by omega⟩
  simp only [w1]
  have hc : ¬ (True = False ∨ (k : Int) < 0 ∨ (y : Int) ≥ (M' : Int)) := by simp; omega
  rw [if_neg (by simpa using hc), IntWalk.i64_in ((x : Int) * u) ⟨by omega, by omega⟩, IntWalk.i64_in ((y : Int) * v) ⟨by omega, by omega⟩, IntWalk.i64_in (a + (x : Int) * u) ⟨by omega, by omega⟩, IntWalk.i64_in (b + (y : Int) * v) ⟨by omega, by omega⟩,
    IntWalk.i64_in (a + (x : Int) * u + u) ⟨by omega, by omega⟩, IntWalk.i64_in (b + (y : Int) * v + v) ⟨by omega, by omega⟩]
  rfl
theorem tile_in {a b W H u v : Int} (ha : -6 ≤ a ∧ a + W ≤ 6) (hb : -6 ≤ b ∧ b + H ≤ 6) (hu : 1 ≤ u) (hv : 1 ≤ v) {x y : Nat} (hx : 0 ≤ (x : Int) * u ∧ (x : Int) * u < W) (hy : 0 ≤ (y : Int) * v ∧ (y : Int) * v < H) :
    (tileRc a b W H u v x y).empty = false ∧ Rc.covers ⟨a, b, a + W, b + H⟩ (tileRc a b W H u v x y) = true ∧ (tileRc a b W H u v x y).area = (min ((x : Int) * u + u) W - (x : Int) * u) * (min ((y : Int) * v + v) H - (y : Int) * v) := by
  have he : (tileRc a b W H u v x y).empty = false := (Rc.empty_iff _).2 (by simp only [tileRc]; omega)
  have he2 : (⟨a, b, a + W, b + H⟩ : Rc).empty = false := (Rc.empty_iff _).2 (by simp only; omega)
  refine ⟨he, ?_, ?_⟩
  · simp [Rc.covers, he, he2]
    simp [tileRc]
    omega
  · simp only [Rc.area, he]
    simp only [Bool.false_eq_true, if_false, tileRc]
    congr 1 <;> omega
theorem tile_has {a b W H u v p q : Int} (ha : -6 ≤ a ∧ a + W ≤ 6) (hb : -6 ≤ b ∧ b + H ≤ 6) (hu : 1 ≤ u) (hv : 1 ≤ v) {x y : Nat} (hx : 0 ≤ (x : Int) * u ∧ (x : Int) * u < W) (hy : 0 ≤ (y : Int) * v ∧ (y : Int) * v < H) (hp : 0 ≤ p ∧ p < W) (hq : 0 ≤ q ∧ q < H) :
    (tileRc a b W H u v x y).has (a + p) (b + q) = decide (p / u = (x : Int) ∧ q / v = (y : Int)) := by
  have he := (tile_in ha hb hu hv hx hy).1
  rw [Bool.eq_iff_iff, Rc.has_iff, decide_eq_true_eq, div_iff hu, div_iff hv]
  simp only [tileRc] at he ⊢
  constructor
  · rintro ⟨_, h1, h2, h3, h4⟩; omega
  · intro h; exact ⟨he, by omega, by omega, by omega, by omega⟩
/-! ### sums -/
def sumTo (f : Nat → Int) : Nat → Int
  | 0 => 0
  | n + 1 => sumTo f n + f n
theorem sumTo_congr {f g : Nat → Int} : ∀ {n : Nat}, (∀ i, i < n → f i = g i) → sumTo f n = sumTo g n
  | 0, _ => rfl
  | n + 1, h => by simp only [sumTo]; rw [sumTo_congr fun i hi => h i (by omega), h n (by omega)]
theorem sumTo_add (f : Nat → Int) (a : Nat) : ∀ b, sumTo f (a + b) = sumTo f a + sumTo (fun i => f (a + i)) b
  | 0 => by simp [sumTo]
  | b + 1 => by rw [← Nat.add_assoc]; simp only [sumTo]; rw [sumTo_add f a b, Int.add_assoc]
theorem sumTo_mul (f : Nat → Int) (c : Int) : ∀ n, sumTo (fun i => f i * c) n = sumTo f n * c
  | 0 => by simp [sumTo]
  | n + 1 => by simp only [sumTo]; rw [sumTo_mul f c n, Int.add_mul]
theorem sumTo_grid (f g : Nat → Int) {N : Nat} (hN : 0 < N) : ∀ M, sumTo (fun i => f (i % N) * g (i / N)) (N * M) = sumTo f N * sumTo g M
  | 0 => by simp [sumTo]
  | M + 1 => by
    rw [Nat.mul_succ, sumTo_add, sumTo_grid f g hN M]
    have e : sumTo (fun i => f ((N * M + i) % N) * g ((N * M + i) / N)) N = sumTo (fun i => f i * g M) N := sumTo_congr fun i hi => by
      rw [Nat.mul_add_mod, Nat.mod_eq_of_lt hi, Nat.mul_add_div hN, Nat.div_eq_of_lt hi, Nat.add_zero]
    rw [e, sumTo_mul]
    simp only [sumTo]
    rw [Int.mul_add]
theorem sum_side {W u : Int} {N : Nat} (hu : 1 ≤ u) (h : ∀ x : Nat, x < N → 0 ≤ (x : Int) * u ∧ (x : Int) * u < W ∧ ((x : Int) + 1 = N → W ≤ (x : Int) * u + u) ∧ ((x : Int) + 1 < N → (x : Int) * u + u ≤ W)) (hN : 1 ≤ N) : sumTo (fun x => min ((x : Int) * u + u) W - (x : Int) * u) N = W := by
  have key : ∀ k : Nat, k < N → sumTo (fun x => min ((x : Int) * u + u) W - (x : Int) * u) k = (k : Int) * u := by
    intro k
    induction k with
    | zero => intro _; simp [sumTo]
    | succ k ih =>
      intro hk
      have h1 := h k (by omega)
      simp only [sumTo]
      rw [ih (by omega)]
      have h2 := h1.2.2.2 (by omega)
      have e : ((k + 1 : Nat) : Int) * u = (k : Int) * u + u := by rw [Int.natCast_add, Int.add_mul]; simp
      rw [e]; omega
  obtain ⟨k, rfl⟩ : ∃ k, N = k + 1 := ⟨N - 1, by omega⟩
  simp only [sumTo]
  rw [key k (by omega)]
  have h1 := h k (by omega)
  have h2 := h1.2.2.1 (by omega)
  omega
/-- the areas of the tiles add up -/
theorem sum_areas {a b W H u v : Int} (ha : -6 ≤ a ∧ a + W ≤ 6) (hb : -6 ≤ b ∧ b + H ≤ 6) (hu : 1 ≤ u ∧ u ≤ W) (hv : 1 ≤ v ∧ v ≤ H) {N M : Nat} (hN : (W + u - 1) / u = (N : Int)) (hM : (H + v - 1) / v = (M : Int)) : sumTo (fun i => (tileRc a b W H u v (i % N) (i / N)).area) (N * M) = W * H := by
  obtain ⟨N', hN', n1, n2, n3⟩ := cnt_nat hu (by omega)
  obtain ⟨M', hM', m1, m2, m3⟩ := cnt_nat hv (by omega)
  obtain rfl : N' = N := by omega
  obtain rfl : M' = M := by omega
  have e := sumTo_congr (n := N' * M') (f := fun i => (tileRc a b W H u v (i % N') (i / N')).area) (g := fun i => (fun x : Nat => min ((x : Int) * u + u) W - (x : Int) * u) (i % N') * (fun y : Nat => min ((y : Int) * v + v) H - (y : Int) * v) (i / N')) fun i hi => by
    have hx := Nat.mod_lt i (show 0 < N' by omega)
    have hy : i / N' < M' := Nat.div_lt_of_lt_mul hi
    have k1 := n3 _ hx
    have k2 := m3 _ hy
    exact (tile_in ha hb hu.1 hv.1 ⟨k1.1, k1.2.1⟩ ⟨k2.1, k2.2.1⟩).2.2
  refine e.trans ((sumTo_grid (fun x : Nat => min ((x : Int) * u + u) W - (x : Int) * u) (fun y : Nat => min ((y : Int) * v + v) H - (y : Int) * v) (by omega) M').trans ?_)
  rw [sum_side hu.1 n3 n1, sum_side hv.1 m3 m1]
theorem area_small {a b W H u v : Int} (ha : -6 ≤ a ∧ a + W ≤ 6) (hb : -6 ≤ b ∧ b + H ≤ 6) (hu : 1 ≤ u) (hv : 1 ≤ v) (x y : Nat) : 0 ≤ (tileRc a b W H u v x y).area ∧ (tileRc a b W H u v x y).area ≤ 144 := by
  unfold Rc.area
  split
  · omega
  · rename_i h
    have h := Rc.empty_false (by simpa using h)
    simp only [tileRc] at h ⊢
    have hx : 0 ≤ (x : Int) * u := Int.mul_nonneg (by omega) (by omega)
    have hy : 0 ≤ (y : Int) * v := Int.mul_nonneg (by omega) (by omega)
    generalize (x : Int) * u = X at *
    generalize (y : Int) * v = Y at *
    have k1 := Int.mul_le_mul (show min (a + X + u) (a + W) - (a + X) ≤ 12 by omega) (show min (b + Y + v) (b + H) - (b + Y) ≤ 12 by omega) (by omega) (by omega)
    have k2 := Int.mul_nonneg (show 0 ≤ min (a + X + u) (a + W) - (a + X) by omega) (show 0 ≤ min (b + Y + v) (b + H) - (b + Y) by omega)
    omega
theorem sumTo_small {f : Nat → Int} (h : ∀ i, 0 ≤ f i ∧ f i ≤ 144) : ∀ n, 0 ≤ sumTo f n ∧ sumTo f n ≤ 144 * n
  | 0 => by simp [sumTo]
  | n + 1 => by
    have := sumTo_small h n
    have := h n
    simp only [sumTo]
    omega
end Go.Proofs.Ytoljdijpmnadpaa
