/-
  Planes with longer rows and made images, in plain words: what the laws ask of them.
-/
import Derived.Test.YtfeknaojnominaaSpK
namespace Go.Proofs.Ytfeknaojnominaa
open Go.RowKit
set_option linter.unusedVariables false
set_option linter.unusedSimpArgs false

theorem strRow_nAt (p : Pl) (s : Int) {n i : Nat} (h : i < n) : nAt (strRow p s n) i = strV p s i := by
  unfold strRow
  rw [us_nAt (by simpa using h)]
  simp
theorem strP_isU (p : Pl) (more k : Int) : (strP p more k).isU := by
  show IsU (strN p _) (strRow p _ _)
  exact isU_us_ _ (by simp)
theorem strP_valid {p : Pl} {more k : Int} (hv : validP p.w p.h p.s p.n = true) (hw : p.w ≤ 100) (hh : p.h ≤ 100) : validP (strP p more k).w (strP p more k).h (strP p more k).s (strP p more k).n = true := by
  have hf : fitsP p.w p.h = true := by unfold validP at hv; simp at hv; exact hv.1.1.1
  obtain ⟨f1, f2, f3, f4, f5⟩ := fits_le hf
  have S := @strS_is p more k ⟨f1, hw⟩
  have N := @strN_is p (strS p more k) ⟨by omega, by omega⟩ ⟨f2, hh⟩
  have L := lenW_eq hf S.1 (by omega)
  show validP p.w p.h (strS p more k) (strN p (strS p more k)) = true
  unfold validP
  have e : (p.h - 1) * strS p more k = strS p more k * p.h - strS p more k := by rw [Int.sub_mul, Int.mul_comm]; omega
  simp only [hf, Bool.true_and, Bool.and_eq_true, decide_eq_true_eq]
  exact ⟨⟨S.1, by omega⟩, by omega⟩
theorem strP_at {p : Pl} {more k : Int} (hv : validP p.w p.h p.s p.n = true) (hw : p.w ≤ 100) (hh : p.h ≤ 100) {x y : Int} (hx : 0 ≤ x ∧ x < p.w) (hy : 0 ≤ y ∧ y < p.h) : (strP p more k).at_ x y = p.at_ x y := by
  have hf : fitsP p.w p.h = true := by unfold validP at hv; simp at hv; exact hv.1.1.1
  obtain ⟨f1, f2, f3, f4, f5⟩ := fits_le hf
  obtain ⟨q1, q2, q3, q4, q5⟩ := place hv hx.1 hx.2 hy.1 hy.2
  obtain ⟨v1, v2, v3, v4, v5, v6, v7, v8, v9⟩ := valid_facts hv
  have S := @strS_is p more k ⟨f1, hw⟩
  have N := @strN_is p (strS p more k) ⟨by omega, by omega⟩ ⟨f2, hh⟩
  show nAt (strRow p (strS p more k) (strN p (strS p more k))) (y * strS p more k + x).toNat = nAt p.xs (y * p.s + x).toNat
  generalize strS p more k = s at *
  have a1 : 0 ≤ y * s := Int.mul_nonneg hy.1 (by omega)
  have a2 : (y + 1) * s ≤ p.h * s := Int.mul_le_mul_of_nonneg_right (by omega) (by omega)
  have a3 : (y + 1) * s = y * s + s := by rw [Int.add_mul, Int.one_mul]
  have a4 : p.h * s = s * p.h := Int.mul_comm _ _
  have hi : (y * s + x).toNat < strN p s := by omega
  rw [strRow_nAt _ _ hi]
  have ei : ((y * s + x).toNat : Int) = y * s + x := by omega
  unfold strV
  rw [ei, Int.tmod_eq_emod_of_nonneg (by omega), Int.tdiv_eq_ediv_of_nonneg (by omega)]
  have m1 : (y * s + x) % s = x := by rw [Int.add_comm, Int.add_mul_emod_self_right]; exact Int.emod_eq_of_lt hx.1 (by omega)
  have m2 : (y * s + x) / s = y := by rw [Int.add_comm, Int.add_mul_ediv_right _ _ (by omega), Int.ediv_eq_zero_of_lt hx.1 (by omega)]; omega
  rw [m1, m2, if_pos hx.2]
  rw [IntWalk.i64_in y ⟨by omega, by omega⟩, q5.1, q5.2]
theorem gStrided_so (m : Im) (more : Int) : (gStrided m more).so = m.so ∧ (gStrided m more).w = m.w ∧ (gStrided m more).h = m.h ∧ (gStrided m more).c = m.c := by
  unfold gStrided
  split <;> simp
theorem gStrided_isU {m : Im} (hu : m.isU) (more : Int) : (gStrided m more).isU := by
  unfold gStrided
  split
  · exact hu
  · exact ⟨strP_isU _ _ _, strP_isU _ _ _, strP_isU _ _ _, strP_isU _ _ _, strP_isU _ _ _⟩
theorem gStrided_formed {m : Im} (hf : m.formed = true) (hm : m.w ≤ 100 ∧ m.h ≤ 100) (more : Int) : (gStrided m more).formed = true := by
  unfold gStrided
  split
  · exact hf
  · rename_i hs
    have hs : m.so = false := by simpa using hs
    obtain ⟨qf, qi⟩ := Im.formed_of hf
    obtain ⟨qc, z0, z1, z2, z3, z4⟩ := Im.inner_planes qi hs
    have p0 := strP_valid (more := more) (k := 0) z0.1 (by omega) (by omega)
    have p1 := strP_valid (more := more) (k := 1) z1.1 (by omega) (by omega)
    have p2 := strP_valid (more := more) (k := 2) z2.1 (by omega) (by omega)
    have p3 := strP_valid (more := more) (k := 3) z3.1 (by omega) (by omega)
    have p4 := strP_valid (more := more) (k := 4) z4.1 (by omega) (by omega)
    have e : ∀ (p : Pl) k, (strP p more k).w = p.w ∧ (strP p more k).h = p.h := fun p k => ⟨rfl, rfl⟩
    simp only [(e _ _).1, (e _ _).2, z0.2, z1.2, z2.2, z3.2, z4.2] at p0 p1 p2 p3 p4
    simp [Im.formed, Im.inner, okPl, hs, qf, qc, p0, p1, p2, p3, p4, e, z0.2, z1.2, z2.2, z3.2, z4.2]
theorem gStrided_px {m : Im} (hf : m.formed = true) (hm : m.w ≤ 100 ∧ m.h ≤ 100) (more : Int) {x y : Int} (hx : 0 ≤ x ∧ x < m.w) (hy : 0 ≤ y ∧ y < m.h) : (gStrided m more).px x y = m.px x y := by
  unfold gStrided
  split
  · rfl
  · rename_i hs
    have hs : m.so = false := by simpa using hs
    obtain ⟨qf, qi⟩ := Im.formed_of hf
    obtain ⟨qc, z0, z1, z2, z3, z4⟩ := Im.inner_planes qi hs
    unfold Im.px
    simp only [hs]
    rw [strP_at z0.1 (by omega) (by omega) (by omega) (by omega), strP_at z1.1 (by omega) (by omega) (by omega) (by omega), strP_at z2.1 (by omega) (by omega) (by omega) (by omega), strP_at z3.1 (by omega) (by omega) (by omega) (by omega), strP_at z4.1 (by omega) (by omega) (by omega) (by omega)]
theorem Im.at_ext {m r : Im} (hm : m.formed = true) (hr : r.formed = true) (hw : r.w = m.w) (hh : r.h = m.h) (h : ∀ x y : Int, (0 ≤ x ∧ x < m.w) → (0 ≤ y ∧ y < m.h) → r.px x y = m.px x y) (x y : Int) : r.at_ x y = m.at_ x y := by
  unfold Im.at_
  rw [hm, hr, hw, hh]
  split
  · rename_i q
    simp at q
    exact h x y ⟨by omega, by omega⟩ ⟨by omega, by omega⟩
  · rfl
theorem Im.pixels_ext {m r : Im} (hm : m.formed = true) (hr : r.formed = true) (hw : r.w = m.w) (hh : r.h = m.h) (h : ∀ x y : Int, (0 ≤ x ∧ x < m.w) → (0 ≤ y ∧ y < m.h) → r.px x y = m.px x y) : r.pixels = m.pixels := by
  rw [Im.pixels_of hm, Im.pixels_of hr, hw, hh]
  unfold Im.list
  refine List.map_congr_left fun k hk => ?_
  have hk := List.mem_range.1 hk
  obtain ⟨a, b⟩ := Im.nth_in (Im.formed_of hm).1 hk
  unfold Im.nth
  rw [hw]
  exact h _ _ a b
theorem gStrided_at {m : Im} (hf : m.formed = true) (hm : m.w ≤ 100 ∧ m.h ≤ 100) (more x y : Int) : (gStrided m more).at_ x y = m.at_ x y :=
  have g := gStrided_so m more
  Im.at_ext hf (gStrided_formed hf hm more) g.2.1 g.2.2.1 (fun x y hx hy => gStrided_px hf hm more hx hy) x y
theorem gStrided_pixels {m : Im} (hf : m.formed = true) (hm : m.w ≤ 100 ∧ m.h ≤ 100) (more : Int) : (gStrided m more).pixels = m.pixels :=
  have g := gStrided_so m more
  Im.pixels_ext hf (gStrided_formed hf hm more) g.2.1 g.2.2.1 (fun x y hx hy => gStrided_px hf hm more hx hy)
theorem solidIm_formed {w h : Int} (c : Px) (hf : fitsP w h = true) : (solidIm w h c).formed = true := by
  simp [Im.formed, Im.inner, okPl, solidIm, hf, zeroPl, Pl.none]
theorem ofIm_formed {w h : Int} {l : List Px} (hk : ofOk w h l.length = true) : (ofIm w h l).formed = true := by
  unfold ofOk at hk
  simp at hk
  obtain ⟨hf, hl⟩ := hk
  obtain ⟨f1, f2, f3, f4, f5⟩ := fits_le hf
  have L := lenW_eq hf (Int.le_refl w) f3
  have e : (h - 1) * w = w * h - w := by rw [Int.sub_mul, Int.mul_comm]; omega
  have hv : validP w h w l.length = true := by
    unfold validP
    simp only [hf, Bool.true_and, Bool.and_eq_true, decide_eq_true_eq]
    exact ⟨⟨Int.le_refl _, f3⟩, by omega⟩
  simp [Im.formed, Im.inner, okPl, ofIm, hf, hv]
theorem gImage_facts (pw ph so mood : Int) (L : Nat) (xs : List DV) (x0 y0 x1 y1 most : Int) (hc : 1 ≤ x1 - x0 ∧ x1 - x0 ≤ 100 ∧ 1 ≤ y1 - y0 ∧ y1 - y0 ≤ 100) :
    (gImage pw ph so mood L xs x0 y0 x1 y1 most).formed = true ∧ 1 ≤ (gImage pw ph so mood L xs x0 y0 x1 y1 most).w ∧ (gImage pw ph so mood L xs x0 y0 x1 y1 most).w ≤ 100 ∧ 1 ≤ (gImage pw ph so mood L xs x0 y0 x1 y1 most).h ∧ (gImage pw ph so mood L xs x0 y0 x1 y1 most).h ≤ 100 := by
  have b5 := @modS_in pw 5 (by omega) (by omega)
  have b4 := @modS_in ph 4 (by omega) (by omega)
  have hW : 1 ≤ gSide pw 5 x0 x1 pw ∧ gSide pw 5 x0 x1 pw ≤ 100 := by
    unfold gSide
    split <;> rw [IntWalk.i64_in _ ⟨by omega, by omega⟩] <;> omega
  have hH : 1 ≤ gSide ph 4 y0 y1 pw ∧ gSide ph 4 y0 y1 pw ≤ 100 := by
    unfold gSide
    split <;> rw [IntWalk.i64_in _ ⟨by omega, by omega⟩] <;> omega
  rw [gImage_is pw ph so mood L xs x0 y0 x1 y1 most _ _ rfl rfl]
  generalize gSide pw 5 x0 x1 pw = W at *
  generalize gSide ph 4 y0 y1 pw = H at *
  have wa := wrap_area hW hH
  have hf : fitsP W H = true := by
    have := Int.mul_le_mul hW.2 hH.2 (by omega) (by omega)
    simp [fitsP]; omega
  have hwm : IntKind.wrap .i64 (W * H) = W * H := IntWalk.i64_in _ (by
    have := Int.mul_le_mul hW.2 hH.2 (by omega) (by omega)
    have := Int.mul_nonneg (a := W) (b := H) (by omega) (by omega)
    omega)
  split
  · exact ⟨solidIm_formed _ hf, hW.1, hW.2, hH.1, hH.2⟩
  · have hk : ofOk W H (gPixels mood L xs most (IntKind.wrap .i64 (W * H)).toNat).length = true := by
      simp only [ofOk, hf, Bool.true_and, decide_eq_true_eq, gPixels_len]
      omega
    rw [imOf_ok hk]
    exact ⟨ofIm_formed hk, hW.1, hW.2, hH.1, hH.2⟩
end Go.Proofs.Ytfeknaojnominaa
