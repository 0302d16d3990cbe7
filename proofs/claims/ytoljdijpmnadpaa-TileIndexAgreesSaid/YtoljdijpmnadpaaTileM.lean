/-
  Tiles as numbers: how many, where each lies. No program here.
-/
import Derived.Test.YtoljdijpmnadpaaBase
namespace Go.Proofs.Ytoljdijpmnadpaa
open Go.RowKit
set_option linter.unusedVariables false
set_option linter.unusedSimpArgs false

def tOk (r : Rc) (w h : Int) : Bool := !r.empty && decide (1 ≤ w) && decide (w ≤ r.c - r.a) && decide (1 ≤ h) && decide (h ≤ r.d - r.b)
def tNx (r : Rc) (w : Int) : Int := (r.c - r.a - 1) / w + 1
def tNy (r : Rc) (h : Int) : Int := (r.d - r.b - 1) / h + 1
def cNx (r : Rc) (w h : Int) : Int := if tOk r w h then tNx r w else 0
def cNy (r : Rc) (w h : Int) : Int := if tOk r w h then tNy r h else 0
def tHas (r : Rc) (w h i : Int) : Bool := tOk r w h && decide (0 ≤ i) && decide (i < tNx r w * tNy r h)
def tAt (r : Rc) (w h i : Int) : Rc :=
  ⟨r.a + i % tNx r w * w, r.b + i / tNx r w * h, min (r.a + i % tNx r w * w + w) r.c, min (r.b + i / tNx r w * h + h) r.d⟩
def tRect (r : Rc) (w h i : Int) : Rc := if tHas r w h i then tAt r w h i else Rc.zero
def tIdxOk (r : Rc) (w h x y : Int) : Bool := tOk r w h && r.has x y
def tIdx (r : Rc) (w h x y : Int) : Int := if tIdxOk r w h x y then (y - r.b) / h * tNx r w + (x - r.a) / w else 0

theorem tOk_true {r : Rc} {w h : Int} (ho : tOk r w h = true) :
    r.empty = false ∧ 1 ≤ w ∧ w ≤ r.c - r.a ∧ 1 ≤ h ∧ h ≤ r.d - r.b ∧ -1073741824 ≤ r.a ∧ r.a < r.c ∧ r.c ≤ 1073741824 ∧ -1073741824 ≤ r.b ∧ r.b < r.d ∧ r.d ≤ 1073741824 := by
  simp only [tOk, Bool.and_eq_true, Bool.not_eq_true', decide_eq_true_eq] at ho
  obtain ⟨⟨⟨⟨a, b⟩, c⟩, d⟩, e⟩ := ho
  obtain ⟨h1, h2, h3, h4, h5, h6⟩ := Rc.empty_false a
  exact ⟨a, b, c, d, e, h1, h2, h3, h4, h5, h6⟩
theorem div_up {n w : Int} (hw : 1 ≤ w) : (n + w - 1) / w = (n - 1) / w + 1 := by
  rw [show n + w - 1 = (n - 1) + w * 1 from by omega, Int.add_mul_ediv_left _ _ (by omega)]
theorem div_bd {n w : Int} (hw : 1 ≤ w) (hn : 0 ≤ n) : 0 ≤ n / w ∧ n / w ≤ n ∧ n / w * w ≤ n ∧ n < n / w * w + w := by
  have a := Int.mul_ediv_add_emod n w
  have b := Int.emod_nonneg n (show w ≠ 0 by omega)
  have c := Int.emod_lt_of_pos n (show 0 < w by omega)
  have d := Int.ediv_nonneg hn (show 0 ≤ w by omega)
  have e := Int.ediv_le_self w hn
  rw [Int.mul_comm] at a
  omega
theorem nx_bd {r : Rc} {w h : Int} (ho : tOk r w h = true) : 1 ≤ tNx r w ∧ tNx r w ≤ 2147483648 ∧ 1 ≤ tNy r h ∧ tNy r h ≤ 2147483648 ∧
    (tNx r w - 1) * w ≤ r.c - r.a - 1 ∧ (tNy r h - 1) * h ≤ r.d - r.b - 1 ∧ r.c - r.a - 1 < (tNx r w - 1) * w + w ∧ r.d - r.b - 1 < (tNy r h - 1) * h + h := by
  obtain ⟨_, h1, h2, h3, h4, a1, a2, a3, a4, a5, a6⟩ := tOk_true ho
  have := div_bd (n := r.c - r.a - 1) h1 (by omega)
  have := div_bd (n := r.d - r.b - 1) h3 (by omega)
  unfold tNx tNy
  simp only [Int.add_sub_cancel]
  omega
theorem has_i {n m i : Int} (hn : 1 ≤ n) (h0 : 0 ≤ i) : (i < n * m ↔ i / n < m) := by
  rw [Int.ediv_lt_iff_lt_mul (by omega), Int.mul_comm]
theorem at_bd {r : Rc} {w h i : Int} (ho : tOk r w h = true) (h0 : 0 ≤ i) (hi : i / tNx r w < tNy r h) :
    0 ≤ i % tNx r w ∧ i % tNx r w ≤ tNx r w - 1 ∧ 0 ≤ i % tNx r w * w ∧ i % tNx r w * w ≤ r.c - r.a - 1 ∧ 0 ≤ i / tNx r w ∧ 0 ≤ i / tNx r w * h ∧ i / tNx r w * h ≤ r.d - r.b - 1 := by
  obtain ⟨_, h1, h2, h3, h4, a1, a2, a3, a4, a5, a6⟩ := tOk_true ho
  obtain ⟨b1, b2, b3, b4, b5, b6, _, _⟩ := nx_bd ho
  have c1 := Int.emod_nonneg i (show tNx r w ≠ 0 by omega)
  have c2 := Int.emod_lt_of_pos i (show 0 < tNx r w by omega)
  have c3 := Int.ediv_nonneg h0 (show 0 ≤ tNx r w by omega)
  have c4 : i % tNx r w * w ≤ (tNx r w - 1) * w := Int.mul_le_mul_of_nonneg_right (by omega) (by omega)
  have c5 : i / tNx r w * h ≤ (tNy r h - 1) * h := Int.mul_le_mul_of_nonneg_right (by omega) (by omega)
  have c6 := Int.mul_nonneg c1 (show 0 ≤ w by omega)
  have c7 := Int.mul_nonneg c3 (show 0 ≤ h by omega)
  omega

end Go.Proofs.Ytoljdijpmnadpaa
