/-
  An image that is made of another one's pixels, in plain words.
-/
import Derived.Test.YtfeknaojnominaaSpL
namespace Go.Proofs.Ytfeknaojnominaa
open Go.RowKit
set_option linter.unusedVariables false
set_option linter.unusedSimpArgs false

theorem chan_at {l : List Px} {g : Px → Int} {k : Nat} (h : k < l.length) : nAt (chan l g) k = g l[k] := by
  unfold chan
  rw [us_nAt (by simpa using h)]
  simp
theorem ofIm_px {w h : Int} {l : List Px} {x y : Int} (hk : (y * w + x).toNat < l.length) : (ofIm w h l).px x y = l[(y * w + x).toNat] := by
  simp [Im.px, ofIm, Pl.at_, chan_at hk]
theorem Im.list_at {m : Im} {n k : Nat} (h : k < n) : (m.list n)[k]'(by rw [Im.list_len]; exact h) = m.nth k := by simp [Im.list]
theorem Im.equal_px {m r : Im} (hm : m.formed = true) (hr : r.formed = true) (hw : r.w = m.w) (hh : r.h = m.h) (h : ∀ x y : Int, (0 ≤ x ∧ x < m.w) → (0 ≤ y ∧ y < m.h) → r.px x y = m.px x y) : m.equal r = true := by
  have := Im.pixels_ext hm hr hw hh h
  simp [Im.equal, hm, hr, hw, hh, this]
theorem Im.pixels_len {m : Im} (hf : m.formed = true) : (m.pixels.length : Int) = m.w * m.h := by
  rw [Im.pixels_of hf, Im.list_len]
  exact (Im.count_le (Im.formed_of hf).1).2
theorem Im.pixels_ok {m : Im} (hf : m.formed = true) : ofOk m.w m.h m.pixels.length = true := by
  simp [ofOk, (Im.formed_of hf).1, Im.pixels_len hf]
theorem Im.pixels_at {m : Im} (hf : m.formed = true) {x y : Int} (hx : 0 ≤ x ∧ x < m.w) (hy : 0 ≤ y ∧ y < m.h) : ∃ h : (y * m.w + x).toNat < m.pixels.length, m.pixels[(y * m.w + x).toNat] = m.px x y := by
  obtain ⟨x, rfl⟩ := Int.eq_ofNat_of_zero_le hx.1
  obtain ⟨y, rfl⟩ := Int.eq_ofNat_of_zero_le hy.1
  obtain ⟨f1, f2, f3, f4, f5⟩ := fits_le (Im.formed_of hf).1
  have hi : ((y : Int) * m.w + (x : Int)).toNat = y * m.w.toNat + x := idx (by omega)
  have hX : x < m.w.toNat := by omega
  have hY : y < m.h.toNat := by omega
  have hA := in_area hX hY
  rw [hi]
  have e := Im.pixels_of hf
  refine ⟨by rw [e, Im.list_len]; exact hA, ?_⟩
  have : ∀ (l : List Px) (hl : l = m.list (m.w.toNat * m.h.toNat)) (h : y * m.w.toNat + x < l.length), l[y * m.w.toNat + x] = m.px x y := fun l hl h => by
    subst hl
    rw [Im.list_at hA, Im.nth_at hX]
  exact this _ e _
theorem again_facts {m : Im} (hf : m.formed = true) : (imOf m.w m.h m.pixels).formed = true ∧ (imOf m.w m.h m.pixels).w = m.w ∧ (imOf m.w m.h m.pixels).h = m.h ∧ ∀ x y : Int, (0 ≤ x ∧ x < m.w) → (0 ≤ y ∧ y < m.h) → (imOf m.w m.h m.pixels).px x y = m.px x y := by
  have hk := Im.pixels_ok hf
  rw [imOf_ok hk]
  refine ⟨ofIm_formed hk, rfl, rfl, fun x y hx hy => ?_⟩
  obtain ⟨h1, h2⟩ := Im.pixels_at hf hx hy
  rw [ofIm_px h1, h2]
theorem again_equal {m : Im} (hf : m.formed = true) : m.equal (imOf m.w m.h m.pixels) = true := by
  obtain ⟨a, b, c, d⟩ := again_facts hf
  exact Im.equal_px hf a b c d
theorem again_strided {m : Im} (hf : m.formed = true) (hm : m.w ≤ 100 ∧ m.h ≤ 100) (more : Int) : (gStrided (imOf m.w m.h m.pixels) more).equal m = true := by
  obtain ⟨a, b, c, d⟩ := again_facts hf
  have g := gStrided_so (imOf m.w m.h m.pixels) more
  refine Im.equal_px (gStrided_formed a (by omega) more) hf (by rw [g.2.1, b]) (by rw [g.2.2.1, c]) fun x y hx hy => ?_
  rw [g.2.1, b] at hx
  rw [g.2.2.1, c] at hy
  rw [gStrided_px a (by omega) more (by omega) (by omega), d x y hx hy]
theorem equal_zero (m : Im) : m.equal Im.zero = false := by
  have : Im.zero.formed = false := by decide
  simp [Im.equal, this]
theorem imOf_pixels {w h : Int} {l : List Px} (hk : ofOk w h l.length = true) : (imOf w h l).formed = true ∧ (imOf w h l).pixels = l := by
  rw [imOf_ok hk]
  have hf := ofIm_formed hk
  refine ⟨hf, ?_⟩
  rw [Im.pixels_of hf]
  obtain ⟨f1, f2, f3, f4, f5⟩ := fits_le (Im.formed_of hf).1
  have hl : l.length = w.toNat * h.toNat := by
    have := (Im.count_le (Im.formed_of hf).1).2
    simp [ofOk] at hk
    change ((w.toNat * h.toNat : Nat) : Int) = w * h at this
    omega
  refine List.ext_getElem (by rw [Im.list_len]; exact hl.symm) fun i h1 h2 => ?_
  rw [Im.list_len] at h1
  rw [Im.list_at h1]
  have hw : 0 < w.toNat := by change 1 ≤ w at f1; omega
  have e : i / w.toNat * w.toNat + i % w.toNat = i := by rw [Nat.mul_comm]; exact Nat.div_add_mod i w.toNat
  have e2 : (((i / w.toNat : Nat) : Int) * w + ((i % w.toNat : Nat) : Int)).toNat = i := by
    rw [idx (by change 1 ≤ w at f1; omega)]; exact e
  show (ofIm w h l).px ((i % w.toNat : Nat) : Int) ((i / w.toNat : Nat) : Int) = l[i]
  rw [ofIm_px (by rw [e2]; exact h2)]
  simp only [e2]
theorem sets_pxs : ∀ {l : List Px} {k : Nat} (p : Px), k < l.length → sets (pxs l) (k * 5) (Px.ds p) = pxs (l.set k p)
  | q :: l, 0, p, _ => by simp [pxs_cons, Px.ds, sets]
  | q :: l, k + 1, p, h => by
    have ih := sets_pxs (l := l) (k := k) p (by simpa using h)
    have e : ∀ (ys : List DV) (xs : List DV) (i : Nat), sets (Px.ds q ++ xs) (i + 5) ys = Px.ds q ++ sets xs i ys := by
      intro ys
      induction ys with
      | nil => intro xs i; rfl
      | cons y ys ih2 =>
        intro xs i
        simp only [sets]
        rw [List.set_append_right _ _ (by simp [Px.ds]), show i + 5 - (Px.ds q).length = i from by simp [Px.ds], show i + 5 + 1 = i + 1 + 5 from by omega, ih2]
    rw [pxs_cons, show (k + 1) * 5 = k * 5 + 5 from by omega, e, ih]
    rfl
end Go.Proofs.Ytfeknaojnominaa
