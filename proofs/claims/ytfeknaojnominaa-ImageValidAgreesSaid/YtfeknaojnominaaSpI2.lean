/-
  Images in plain words: sameness, channels, an image out of its pixels.
-/
import Derived.Test.YtfeknaojnominaaSpI
namespace Go.Proofs.Ytfeknaojnominaa
open Go.RowKit
set_option linter.unusedVariables false
set_option linter.unusedSimpArgs false

def samePl (p q : Pl) : Bool := sameP p.w p.h p.s p.n p.xs q.w q.h q.s q.n q.xs
def Im.same (m n : Im) : Bool := samePl m.p0 n.p0 && (samePl m.p1 n.p1 && (samePl m.p2 n.p2 && (samePl m.p3 n.p3 && (samePl m.p4 n.p4 && (decide (m.w = n.w) && (decide (m.h = n.h) && ((m.so == n.so) && decide (m.c = n.c))))))))
/-- a channel, filled as far as k -/
def fillCh (l : List Px) (g : Px → Int) (k : Nat) : List DV := us ((l.take k).map g) ++ List.replicate (l.length - k) (.int .u16 0)
theorem fillCh_len {l : List Px} {g : Px → Int} {k : Nat} (h : k ≤ l.length) : (fillCh l g k).length = l.length := by
  unfold fillCh
  rw [List.length_append, us_length, List.length_map, List.length_take, List.length_replicate]; omega
theorem fillCh_zero (l : List Px) (g : Px → Int) : fillCh l g 0 = List.replicate l.length (.int .u16 0) := by simp [fillCh, us]
theorem fillCh_all (l : List Px) (g : Px → Int) : fillCh l g l.length = chan l g := by simp [fillCh, chan]
theorem fillCh_set {l : List Px} {g : Px → Int} {k : Nat} (h : k < l.length) {v : Int} (hv : v = g l[k]) : (fillCh l g k).set k (.int .u16 v) = fillCh l g (k + 1) := by
  subst hv
  have hl : (us ((l.take k).map g)).length = k := by rw [us_length, List.length_map, List.length_take]; omega
  unfold fillCh
  rw [List.set_append_right _ _ (by omega), hl, Nat.sub_self, show l.length - k = (l.length - (k + 1)) + 1 by omega, List.replicate_succ, List.set_cons_zero, List.take_add_one, List.getElem?_eq_getElem h, Option.toList_some, List.map_append, ← us_append]
  simp [us]
theorem pxs_get {l : List Px} {k j : Nat} (h : k < l.length) (hj : j < 5) : (pxs l)[k * 5 + j]? = some (.int .u16 (nAt (pxs l) (k * 5 + j))) := by
  obtain ⟨a0, a1, a2, a3, a4⟩ := pxs_at h
  obtain ⟨b0, b1, b2, b3, b4⟩ := pxs_nAt h
  match j, hj with
  | 0, _ => rw [Nat.add_zero, a0, b0]
  | 1, _ => rw [a1, b1]
  | 2, _ => rw [a2, b2]
  | 3, _ => rw [a3, b3]
  | 4, _ => rw [a4, b4]
theorem pxs_get0 {l : List Px} {k : Nat} (h : k < l.length) : (pxs l)[k * 5]? = some (.int .u16 (nAt (pxs l) (k * 5))) := pxs_get (j := 0) h (by omega)
theorem ofStep {l : List Px} {g : Px → Int} {k : Nat} (hlt : (k : Int) < (l.length : Int)) (hb : l.length ≤ 16777216) {v : Int} (hv : ∀ h : k < l.length, v = g l[k]) :
    ∃ k' : Nat, k' ≤ l.length ∧ l.length - k' < l.length - k ∧ IntKind.wrap .i64 ((k : Int) + 1) = (k' : Int) ∧ (fillCh l g k).set (k * 1) (.int .u16 v) = fillCh l g k' :=
  have h : k < l.length := by omega
  ⟨k + 1, by omega, by omega, wrap_succ (by omega), by rw [Nat.mul_one]; exact fillCh_set h (hv h)⟩
theorem ofSteps {l : List Px} {k : Nat} (hlt : (k : Int) < (l.length : Int)) (hb : l.length ≤ 16777216) {v1 v2 v3 v4 v5 : Int} (h1 : ∀ h : k < l.length, v1 = l[k].a) (h2 : ∀ h : k < l.length, v2 = l[k].b) (h3 : ∀ h : k < l.length, v3 = l[k].c) (h4 : ∀ h : k < l.length, v4 = l[k].al) (h5 : ∀ h : k < l.length, v5 = l[k].f) :
    ∃ k' : Nat, k' ≤ l.length ∧ l.length - k' < l.length - k ∧ IntKind.wrap .i64 ((k : Int) + 1) = (k' : Int) ∧ (fillCh l Px.a k).set (k * 1) (.int .u16 v1) = fillCh l Px.a k' ∧ (fillCh l Px.b k).set (k * 1) (.int .u16 v2) = fillCh l Px.b k' ∧ (fillCh l Px.c k).set (k * 1) (.int .u16 v3) = fillCh l Px.c k' ∧ (fillCh l Px.al k).set (k * 1) (.int .u16 v4) = fillCh l Px.al k' ∧ (fillCh l Px.f k).set (k * 1) (.int .u16 v5) = fillCh l Px.f k' :=
  have h : k < l.length := by omega
  ⟨k + 1, by omega, by omega, wrap_succ (by omega), by rw [Nat.mul_one]; exact fillCh_set h (h1 h), by rw [Nat.mul_one]; exact fillCh_set h (h2 h), by rw [Nat.mul_one]; exact fillCh_set h (h3 h), by rw [Nat.mul_one]; exact fillCh_set h (h4 h), by rw [Nat.mul_one]; exact fillCh_set h (h5 h)⟩
theorem ofEnd {l : List Px} {g : Px → Int} {k : Nat} (hk : k ≤ l.length) (hge : ¬ (k : Int) < (l.length : Int)) : fillCh l g k = fillCh l g l.length := by
  rw [show k = l.length by omega]
theorem us_flat (l : List Int) : ∀ d ∈ us l, d.flat = true := by
  intro d hd
  simp only [us, List.mem_map] at hd
  obtain ⟨v, _, rfl⟩ := hd
  rfl
theorem imOf_ok {w h : Int} {l : List Px} (hk : ofOk w h l.length = true) : imOf w h l = ofIm w h l := by simp [imOf, hk]
theorem imOf_no {w h : Int} {l : List Px} (hk : ofOk w h l.length = false) : imOf w h l = Im.zero := by simp [imOf, hk]
theorem imOf_flat (w h : Int) (l : List Px) : (∀ d ∈ (imOf w h l).p0.xs, d.flat = true) ∧ (∀ d ∈ (imOf w h l).p1.xs, d.flat = true) ∧ (∀ d ∈ (imOf w h l).p2.xs, d.flat = true) ∧ (∀ d ∈ (imOf w h l).p3.xs, d.flat = true) ∧ (∀ d ∈ (imOf w h l).p4.xs, d.flat = true) := by
  cases hk : ofOk w h l.length with
  | true => rw [imOf_ok hk]; exact ⟨us_flat _, us_flat _, us_flat _, us_flat _, us_flat _⟩
  | false => rw [imOf_no hk]; simp [Im.zero, Pl.none]
theorem imOf_flats (w h : Int) (l : List Px) : (∀ d ∈ (imOf w h l).p0.xs, d.flat = true) = True ∧ (∀ d ∈ (imOf w h l).p1.xs, d.flat = true) = True ∧ (∀ d ∈ (imOf w h l).p2.xs, d.flat = true) = True ∧ (∀ d ∈ (imOf w h l).p3.xs, d.flat = true) = True ∧ (∀ d ∈ (imOf w h l).p4.xs, d.flat = true) = True := by
  obtain ⟨a, b, c, d, e⟩ := imOf_flat w h l
  exact ⟨eq_true a, eq_true b, eq_true c, eq_true d, eq_true e⟩
end Go.Proofs.Ytfeknaojnominaa
