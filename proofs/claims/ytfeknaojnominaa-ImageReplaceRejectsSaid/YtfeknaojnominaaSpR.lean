/-
  Other pixels in a rectangle of an image, in plain words.
-/
import Derived.Test.YtfeknaojnominaaSpM
namespace Go.Proofs.Ytfeknaojnominaa
open Go.RowKit
set_option linter.unusedVariables false
set_option linter.unusedSimpArgs false

/-- where the i-th pixel of a rectangle lies in an image that is w wide -/
def repPos (w : Int) (r : Rc) (i : Nat) : Int := (r.b + ((i / (r.c - r.a).toNat : Nat) : Int)) * w + r.a + ((i % (r.c - r.a).toNat : Nat) : Int)
def repTo (w : Int) (r : Rc) (l all : List Px) : Nat → List Px
  | 0 => all
  | k + 1 => (repTo w r l all k).set (repPos w r k).toNat (l.getD k Px.zero)
def Im.repOk (m : Im) (r : Rc) (n : Nat) : Bool := m.formed && !r.empty && Rc.covers ⟨0, 0, m.w, m.h⟩ r && decide ((n : Int) = r.area)
def Im.repE (m : Im) (r : Rc) (n : Nat) : Int := if m.shape = 0 then (if m.repOk r n then 0 else 20) else m.shape
def Im.rep (m : Im) (r : Rc) (n : Nat) (l : List Px) : Im := if m.repOk r n then imOf m.w m.h (repTo m.w r l m.pixels n) else .zero
theorem repTo_len (w : Int) (r : Rc) (l all : List Px) : ∀ k, (repTo w r l all k).length = all.length
  | 0 => rfl
  | k + 1 => by simp [repTo, repTo_len w r l all k]
theorem rep_in {w h : Int} {r : Rc} (hf : fitsP w h = true) (he : r.empty = false) (hc : Rc.covers ⟨0, 0, w, h⟩ r = true) : 0 ≤ r.a ∧ 0 ≤ r.b ∧ r.a < r.c ∧ r.b < r.d ∧ r.c ≤ w ∧ r.d ≤ h ∧ w ≤ 16777216 ∧ h ≤ 16777216 ∧ w * h ≤ 16777216 ∧ r.area = (r.c - r.a) * (r.d - r.b) := by
  obtain ⟨f1, f2, f3, f4, f5⟩ := fits_le hf
  have e := Rc.empty_false he
  simp [Rc.covers, he] at hc
  refine ⟨by omega, by omega, by omega, by omega, by omega, by omega, f3, f4, f5, by simp [Rc.area, he]⟩
theorem rep_place {w h : Int} {r : Rc} (hf : fitsP w h = true) (he : r.empty = false) (hc : Rc.covers ⟨0, 0, w, h⟩ r = true) {k : Nat} (hk : (k : Int) < r.area) :
    0 ≤ ((k % (r.c - r.a).toNat : Nat) : Int) ∧ ((k % (r.c - r.a).toNat : Nat) : Int) < r.c - r.a ∧ 0 ≤ ((k / (r.c - r.a).toNat : Nat) : Int) ∧ ((k / (r.c - r.a).toNat : Nat) : Int) < r.d - r.b ∧ 0 ≤ (r.b + ((k / (r.c - r.a).toNat : Nat) : Int)) * w ∧ 0 ≤ repPos w r k ∧ repPos w r k < w * h ∧ repPos w r k ≤ 16777216 := by
  obtain ⟨i1, i2, i3, i4, i5, i6, i7, i8, i9, i10⟩ := rep_in hf he hc
  have hw : 0 < (r.c - r.a).toNat := by omega
  have h1 := Nat.mod_lt k hw
  have hk2 : k < (r.c - r.a).toNat * (r.d - r.b).toNat := by
    have : (((r.c - r.a).toNat * (r.d - r.b).toNat : Nat) : Int) = (r.c - r.a) * (r.d - r.b) := by
      rw [Int.natCast_mul, Int.toNat_of_nonneg (by omega), Int.toNat_of_nonneg (by omega)]
    omega
  have h2 : k / (r.c - r.a).toNat < (r.d - r.b).toNat := Nat.div_lt_of_lt_mul hk2
  unfold repPos
  generalize k % (r.c - r.a).toNat = x at *
  generalize k / (r.c - r.a).toNat = y at *
  have h3 : 0 ≤ (r.b + (y : Int)) * w := Int.mul_nonneg (by omega) (by omega)
  have h4 : (r.b + (y : Int) + 1) * w ≤ h * w := Int.mul_le_mul_of_nonneg_right (by omega) (by omega)
  rw [Int.add_mul, Int.one_mul, Int.mul_comm h w] at h4
  refine ⟨by omega, by omega, by omega, by omega, h3, by omega, by omega, by omega⟩
/-- as the program reckons it -/
theorem rep_prog {w h : Int} {r : Rc} (hf : fitsP w h = true) (he : r.empty = false) (hc : Rc.covers ⟨0, 0, w, h⟩ r = true) {k : Nat} (hk : (k : Int) < r.area) :
    IntKind.wrap .i64 (IntKind.wrap .i64 (IntKind.wrap .i64 (IntKind.wrap .i64 (r.b + ((k / (r.c - r.a).toNat : Nat) : Int)) * w) + r.a) + ((k % (r.c - r.a).toNat : Nat) : Int)) = repPos w r k := by
  obtain ⟨i1, i2, i3, i4, i5, i6, i7, i8, i9, i10⟩ := rep_in hf he hc
  obtain ⟨p1, p2, p3, p4, p5, p6, p7, p8⟩ := rep_place hf he hc hk
  unfold repPos at p6 p8 ⊢
  rw [IntWalk.i64_in (r.b + _) ⟨by omega, by omega⟩, IntWalk.i64_in (_ * w) ⟨by omega, by omega⟩, IntWalk.i64_in (_ + r.a) ⟨by omega, by omega⟩, IntWalk.i64_in _ ⟨by omega, by omega⟩]
theorem rep_ref {w h : Int} {r : Rc} (hf : fitsP w h = true) (he : r.empty = false) (hc : Rc.covers ⟨0, 0, w, h⟩ r = true) {k : Nat} (hk : (k : Int) < r.area) :
    IntKind.wrap .i64 (IntKind.wrap .i64 (IntKind.wrap .i64 (IntKind.wrap .i64 (r.b + IntKind.wrap .i64 (Int.tdiv (k : Int) (IntKind.wrap .i64 (r.c - r.a)))) * w) + r.a) + Int.tmod (k : Int) (IntKind.wrap .i64 (r.c - r.a))) = repPos w r k := by
  obtain ⟨i1, i2, i3, i4, i5, i6, i7, i8, i9, i10⟩ := rep_in hf he hc
  obtain ⟨p1, p2, p3, p4, p5, p6, p7, p8⟩ := rep_place hf he hc hk
  have e : IntKind.wrap .i64 (r.c - r.a) = ((r.c - r.a).toNat : Int) := by rw [IntWalk.i64_in _ ⟨by omega, by omega⟩]; omega
  have d0 : Int.tdiv (k : Int) ((r.c - r.a).toNat : Int) = ((k / (r.c - r.a).toNat : Nat) : Int) := by rw [Int.tdiv_eq_ediv_of_nonneg (by omega)]; rfl
  have m0 : Int.tmod (k : Int) ((r.c - r.a).toNat : Int) = ((k % (r.c - r.a).toNat : Nat) : Int) := by rw [Int.tmod_eq_emod_of_nonneg (by omega)]; rfl
  rw [e, d0, m0, IntWalk.i64_in (((k / (r.c - r.a).toNat : Nat) : Int)) ⟨by omega, by omega⟩]
  exact rep_prog hf he hc hk
/-- a round -/
theorem rep_step {w h : Int} {r : Rc} {l all : List Px} (hf : fitsP w h = true) (he : r.empty = false) (hc : Rc.covers ⟨0, 0, w, h⟩ r = true) (ha : (all.length : Int) = w * h) {k : Nat} (hk : (k : Int) < r.area) (hl : k < l.length) :
    (repPos w r k).toNat * 5 + 5 ≤ (pxs (repTo w r l all k)).length ∧ sets (pxs (repTo w r l all k)) ((repPos w r k).toNat * 5) (Px.ds ⟨nAt (pxs l) (k * 5), nAt (pxs l) (k * 5 + 1), nAt (pxs l) (k * 5 + 2), nAt (pxs l) (k * 5 + 3), nAt (pxs l) (k * 5 + 4)⟩) = pxs (repTo w r l all (k + 1)) := by
  obtain ⟨p1, p2, p3, p4, p5, p6, p7, p8⟩ := rep_place hf he hc hk
  obtain ⟨a, b, c, d, e⟩ := pxs_nAt hl
  have hlt : (repPos w r k).toNat < (repTo w r l all k).length := by rw [repTo_len]; omega
  refine ⟨by rw [pxs_length]; omega, ?_⟩
  rw [a, b, c, d, e, sets_pxs _ hlt]
  simp [repTo, List.getD, List.getElem?_eq_getElem hl]
theorem repTo_is (w : Int) (r : Rc) (l : List Px) {m : Im} (k : Nat) : IsPxs m.pixels.length (pxs (repTo w r l m.pixels k)) := by
  have := isPxs_pxs (repTo w r l m.pixels k)
  rwa [repTo_len] at this
theorem Im.rep_no {m : Im} {r : Rc} {n : Nat} (l : List Px) (h : m.repOk r n = false) : m.rep r n l = Im.zero := by simp [Im.rep, h]
theorem Im.rep_yes {m : Im} {r : Rc} {n : Nat} (l : List Px) (h : m.repOk r n = true) : m.rep r n l = imOf m.w m.h (repTo m.w r l m.pixels n) := by simp [Im.rep, h]
theorem Im.shape_formed {m : Im} (h : m.shape = 0) : m.formed = true := by
  obtain ⟨a, b⟩ := Im.shape_zero h
  simp [Im.formed, a, b]
theorem Im.rep_shape {m : Im} {r : Rc} {n : Nat} (h : m.shape ≠ 0) : m.repOk r n = false ∧ m.repE r n = m.shape := by
  have hf : m.formed = false := by
    cases hf : m.formed with
    | false => rfl
    | true =>
      obtain ⟨a, b⟩ := Im.formed_of hf
      exact absurd (by simp [Im.shape, a, b]) h
  exact ⟨by simp [Im.repOk, hf], by simp [Im.repE, h]⟩
theorem rep_isU (m : Im) (r : Rc) (n : Nat) (l : List Px) : (m.rep r n l).isU := by
  unfold Im.rep
  split
  · exact imOf_isU _ _ _
  · exact zeroIm_isU
end Go.Proofs.Ytfeknaojnominaa
