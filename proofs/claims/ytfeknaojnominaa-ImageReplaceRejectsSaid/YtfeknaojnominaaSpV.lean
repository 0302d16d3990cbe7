/-
  Other pixels in a rectangle of an image, in plain words: what the laws ask.
-/
import Derived.Test.YtfeknaojnominaaSpR
namespace Go.Proofs.Ytfeknaojnominaa
open Go.RowKit
set_option linter.unusedVariables false
set_option linter.unusedSimpArgs false

/-- a rectangle of a canvas, out of numbers -/
def partRc (r : Rc) (n0 n1 n2 n3 : Int) : Rc :=
  let w := IntKind.wrap .i64 (r.c - r.a)
  let h := IntKind.wrap .i64 (r.d - r.b)
  let x := modS n0 w
  let y := modS n1 h
  ⟨IntKind.wrap .i64 (r.a + x), IntKind.wrap .i64 (r.b + y), IntKind.wrap .i64 (IntKind.wrap .i64 (IntKind.wrap .i64 (r.a + x) + 1) + modS n2 (IntKind.wrap .i64 (w - x))), IntKind.wrap .i64 (IntKind.wrap .i64 (IntKind.wrap .i64 (r.b + y) + 1) + modS n3 (IntKind.wrap .i64 (h - y)))⟩
theorem partRc_facts {w h : Int} (hw : 1 ≤ w ∧ w ≤ 100) (hh : 1 ≤ h ∧ h ≤ 100) (n0 n1 n2 n3 : Int) : (partRc ⟨0, 0, w, h⟩ n0 n1 n2 n3).empty = false ∧ Rc.covers ⟨0, 0, w, h⟩ (partRc ⟨0, 0, w, h⟩ n0 n1 n2 n3) = true ∧ 0 < (partRc ⟨0, 0, w, h⟩ n0 n1 n2 n3).area ∧ (partRc ⟨0, 0, w, h⟩ n0 n1 n2 n3).area ≤ 10000 := by
  have x := @modS_in n0 w (by omega) (by omega)
  have y := @modS_in n1 h (by omega) (by omega)
  have p := @modS_in n2 (w - modS n0 w) (by omega) (by omega)
  have q := @modS_in n3 (h - modS n1 h) (by omega) (by omega)
  have e : partRc ⟨0, 0, w, h⟩ n0 n1 n2 n3 = ⟨modS n0 w, modS n1 h, modS n0 w + 1 + modS n2 (w - modS n0 w), modS n1 h + 1 + modS n3 (h - modS n1 h)⟩ := by
    unfold partRc
    simp only [Int.sub_zero, Int.zero_add]
    rw [IntWalk.i64_in w ⟨by omega, by omega⟩, IntWalk.i64_in h ⟨by omega, by omega⟩, IntWalk.i64_in (modS n0 w) ⟨by omega, by omega⟩, IntWalk.i64_in (modS n1 h) ⟨by omega, by omega⟩, IntWalk.i64_in (modS n0 w + 1) ⟨by omega, by omega⟩, IntWalk.i64_in (modS n1 h + 1) ⟨by omega, by omega⟩, IntWalk.i64_in (w - modS n0 w) ⟨by omega, by omega⟩, IntWalk.i64_in (h - modS n1 h) ⟨by omega, by omega⟩, IntWalk.i64_in _ ⟨by omega, by omega⟩, IntWalk.i64_in _ ⟨by omega, by omega⟩]
  rw [e]
  generalize modS n0 w = x' at *
  generalize modS n1 h = y' at *
  generalize modS n2 (w - x') = p' at *
  generalize modS n3 (h - y') = q' at *
  have he : (⟨x', y', x' + 1 + p', y' + 1 + q'⟩ : Rc).empty = false := (Rc.empty_iff _).2 (by simp only; omega)
  have he2 : (⟨0, 0, w, h⟩ : Rc).empty = false := (Rc.empty_iff _).2 (by simp only; omega)
  have ea : (x' + 1 + p' - x') * (y' + 1 + q' - y') = (p' + 1) * (q' + 1) := by congr 1 <;> omega
  have k1 := Int.mul_le_mul (show p' + 1 ≤ 100 by omega) (show q' + 1 ≤ 100 by omega) (by omega) (by omega)
  have k2 : 0 < (p' + 1) * (q' + 1) := Int.mul_pos (by omega) (by omega)
  refine ⟨he, by simp [Rc.covers, he, he2]; omega, ?_, ?_⟩ <;> simp only [Rc.area, he] <;> simp only [Bool.false_eq_true, if_false, ea] <;> omega
theorem repTo_ne {w : Int} {r : Rc} {l all : List Px} {j : Nat} : ∀ {k : Nat}, (∀ i, i < k → (repPos w r i).toNat ≠ j) → (repTo w r l all k)[j]? = all[j]?
  | 0, _ => rfl
  | k + 1, h => by
    simp only [repTo]
    rw [List.getElem?_set_ne (h k (by omega))]
    exact repTo_ne fun i hi => h i (by omega)
/-- a pixel outside the rectangle stays -/
theorem rep_outside {m : Im} {r : Rc} {l : List Px} {n : Nat} (hok : m.repOk r n = true) {u v : Int} (hu : 0 ≤ u ∧ u < m.w) (hv : 0 ≤ v ∧ v < m.h) (ho : r.has u v = false) : (m.rep r n l).at_ u v = m.at_ u v := by
  rw [Im.rep_yes _ hok]
  simp [Im.repOk] at hok
  obtain ⟨⟨⟨hf, he⟩, hc⟩, hn⟩ := hok
  obtain ⟨qf, qi⟩ := Im.formed_of hf
  have hk : ofOk m.w m.h (repTo m.w r l m.pixels n).length = true := by rw [repTo_len]; exact Im.pixels_ok hf
  obtain ⟨g1, g2⟩ := imOf_pixels hk
  have gw : (imOf m.w m.h (repTo m.w r l m.pixels n)).w = m.w := by rw [imOf_ok hk]; rfl
  have gh : (imOf m.w m.h (repTo m.w r l m.pixels n)).h = m.h := by rw [imOf_ok hk]; rfl
  rw [Im.at_in g1 (by rw [gw]; exact hu) (by rw [gh]; exact hv), Im.at_in hf hu hv]
  obtain ⟨h1, h2⟩ := Im.pixels_at g1 (by rw [gw]; exact hu) (by rw [gh]; exact hv)
  obtain ⟨h3, h4⟩ := Im.pixels_at hf hu hv
  rw [← h2, ← h4]
  simp only [gw] at h1 ⊢
  have e : (repTo m.w r l m.pixels n)[(v * m.w + u).toNat]? = m.pixels[(v * m.w + u).toNat]? := repTo_ne fun i hi => by
    have hka : (i : Int) < r.area := by omega
    obtain ⟨p1, p2, p3, p4, p5, p6, p7, p8⟩ := rep_place qf he hc hka
    obtain ⟨i1, i2, i3, i4, i5, i6, i7, i8, i9, i10⟩ := rep_in qf he hc
    intro e
    have e : repPos m.w r i = v * m.w + u := by
      have := Int.mul_nonneg hv.1 (show 0 ≤ m.w by omega)
      omega
    unfold repPos at e
    generalize ((i % (r.c - r.a).toNat : Nat) : Int) = x at *
    generalize ((i / (r.c - r.a).toNat : Nat) : Int) = y at *
    have hy : r.b + y = v := by
      have a1 : ((r.b + y) * m.w + (r.a + x)) / m.w = r.b + y := by rw [Int.add_comm, Int.add_mul_ediv_right _ _ (by omega), Int.ediv_eq_zero_of_lt (by omega) (by omega)]; omega
      have a2 : (v * m.w + u) / m.w = v := by rw [Int.add_comm, Int.add_mul_ediv_right _ _ (by omega), Int.ediv_eq_zero_of_lt hu.1 hu.2]; omega
      rw [← a1, ← a2, ← e, Int.add_assoc]
    have hx : r.a + x = u := by subst hy; omega
    have : r.has u v = true := (Rc.has_iff _ _ _).2 ⟨he, by omega, by omega, by omega, by omega⟩
    rw [this] at ho
    cases ho
  have h5 : (v * m.w + u).toNat < (repTo m.w r l m.pixels n).length := by rw [repTo_len]; exact h3
  rw [List.getElem?_eq_getElem h5, List.getElem?_eq_getElem h3] at e
  injection e with e
  rw [← e]
  congr 1
theorem rep_ok {m : Im} {r : Rc} {n : Nat} (hf : m.formed = true) (he : r.empty = false) (hc : Rc.covers ⟨0, 0, m.w, m.h⟩ r = true) (hn : (n : Int) = r.area) : m.repOk r n = true ∧ m.repE r n = 0 := by
  obtain ⟨qf, qi⟩ := Im.formed_of hf
  have hs : m.shape = 0 := by simp [Im.shape, qf, qi]
  have hk : m.repOk r n = true := by simp [Im.repOk, hf, he, hc, hn]
  exact ⟨hk, by simp [Im.repE, hs, hk]⟩
theorem rep_flat (m : Im) (r : Rc) (n : Nat) (l : List Px) (h : fitsP m.w m.h = false) : m.repE r n = 6 ∧ m.rep r n l = Im.zero := by
  have hs : m.shape = 6 := by simp [Im.shape, h]
  obtain ⟨a, b⟩ := Im.rep_shape (m := m) (r := r) (n := n) (by omega)
  exact ⟨by rw [b, hs], Im.rep_no _ a⟩
theorem rep_twenty {m : Im} {r : Rc} {n : Nat} (hf : m.formed = true) (hn : (n : Int) ≠ r.area) : m.repE r n = 20 := by
  obtain ⟨qf, qi⟩ := Im.formed_of hf
  have hs : m.shape = 0 := by simp [Im.shape, qf, qi]
  simp [Im.repE, hs, Im.repOk, hn]
theorem rep_seven {q : Im} {r : Rc} {n : Nat} (hf : fitsP q.w q.h = true) (hi : q.inner = false) : q.repE r n = 7 := by
  have hs : q.shape = 7 := by simp [Im.shape, hf, hi]
  rw [(Im.rep_shape (by omega)).2, hs]
theorem bad_plane {so : Bool} {w h : Int} {p : Pl} (hp : okPl so w h p = true) : zeroPl ⟨p.w, p.h, IntKind.wrap .i64 (p.s + 1), p.n, p.xs⟩ = false := by
  cases so with
  | true =>
    simp [okPl, zeroPl] at hp
    simp [zeroPl, hp.1.2, w1_]
  | false =>
    simp [okPl] at hp
    obtain ⟨v1, _⟩ := valid_facts hp.1.1
    simp [zeroPl]; omega
theorem Im.planes_ok {m : Im} (hf : m.formed = true) : okPl m.so m.w m.h m.p0 = true ∧ okPl m.so m.w m.h m.p1 = true ∧ okPl m.so m.w m.h m.p2 = true ∧ okPl m.so m.w m.h m.p3 = true ∧ okPl m.so m.w m.h m.p4 = true := by
  have := (Im.formed_of hf).2
  simp only [Im.inner, Bool.and_eq_true] at this
  exact this.2
theorem pxs_part {l : List Px} {n : Int} (h0 : 0 ≤ n) (h : n.toNat ≤ l.length) : IsPxs (n - 0).toNat (List.take ((n - 0).toNat * 5) (List.drop (Int.toNat 0 * 5) (pxs l))) := by
  have e : (n - 0).toNat = n.toNat := by rw [Int.sub_zero]
  rw [e, show Int.toNat 0 * 5 = 0 from rfl, List.drop_zero, pxs_take]
  have := isPxs_pxs (l.take n.toNat)
  rwa [List.length_take, Nat.min_eq_left h] at this
end Go.Proofs.Ytfeknaojnominaa
