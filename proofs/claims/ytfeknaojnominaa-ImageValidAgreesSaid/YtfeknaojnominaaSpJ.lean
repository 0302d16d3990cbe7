/-
  What the generators make, in plain words: images.
-/
import Derived.Test.YtfeknaojnominaaSpH
namespace Go.Proofs.Ytfeknaojnominaa
open Go.RowKit
set_option linter.unusedVariables false
set_option linter.unusedSimpArgs false

def gSide (p k a b : Int) (often : Int) : Int := if modS (IntKind.wrap .i64 (Int.tdiv often 5)) 3 = 0 then IntKind.wrap .i64 (b - a) else IntKind.wrap .i64 (1 + modS p k)
def gImage (pw ph so mood : Int) (L : Nat) (xs : List DV) (x0 y0 x1 y1 most : Int) : Im :=
  let w := gSide pw 5 x0 x1 pw
  let h := gSide ph 4 y0 y1 pw
  let l := gPixels mood L xs most (IntKind.wrap .i64 (w * h)).toNat
  if modS so 2 = 0 then solidIm w h (gPx mood L xs most 0) else imOf w h l
theorem gPixels_head {mood : Int} {L : Nat} {xs : List DV} {most : Int} {n : Nat} (hn : 0 < n) : nAt (pxs (gPixels mood L xs most n)) 0 = (gPx mood L xs most 0).a ∧ nAt (pxs (gPixels mood L xs most n)) 1 = (gPx mood L xs most 0).b ∧ nAt (pxs (gPixels mood L xs most n)) 2 = (gPx mood L xs most 0).c ∧ nAt (pxs (gPixels mood L xs most n)) 3 = (gPx mood L xs most 0).al ∧ nAt (pxs (gPixels mood L xs most n)) 4 = (gPx mood L xs most 0).f := by
  have h : 0 < (gPixels mood L xs most n).length := by rw [gPixels_len]; exact hn
  have e : (gPixels mood L xs most n)[0] = gPx mood L xs most 0 := by simp [gPixels]
  have := pxs_nAt h
  rw [e] at this
  simpa only [Nat.zero_mul, Nat.zero_add] using this
theorem gImage_flats (pw ph so mood : Int) (L : Nat) (xs : List DV) (x0 y0 x1 y1 most : Int) : (∀ d ∈ (gImage pw ph so mood L xs x0 y0 x1 y1 most).p0.xs, d.flat = true) = True ∧ (∀ d ∈ (gImage pw ph so mood L xs x0 y0 x1 y1 most).p1.xs, d.flat = true) = True ∧ (∀ d ∈ (gImage pw ph so mood L xs x0 y0 x1 y1 most).p2.xs, d.flat = true) = True ∧ (∀ d ∈ (gImage pw ph so mood L xs x0 y0 x1 y1 most).p3.xs, d.flat = true) = True ∧ (∀ d ∈ (gImage pw ph so mood L xs x0 y0 x1 y1 most).p4.xs, d.flat = true) = True := by
  unfold gImage
  simp only
  split
  · simp [solidIm, Pl.none]
  · exact imOf_flats _ _ _
theorem gImage_isU (pw ph so mood : Int) (L : Nat) (xs : List DV) (x0 y0 x1 y1 most : Int) : (gImage pw ph so mood L xs x0 y0 x1 y1 most).isU := by
  unfold gImage
  simp only
  split
  · exact solidIm_isU _ _ _
  · exact imOf_isU _ _ _
theorem gImage_is (pw ph so mood : Int) (L : Nat) (xs : List DV) (x0 y0 x1 y1 most : Int) (W H : Int) (hW : gSide pw 5 x0 x1 pw = W) (hH : gSide ph 4 y0 y1 pw = H) : gImage pw ph so mood L xs x0 y0 x1 y1 most = if modS so 2 = 0 then solidIm W H (gPx mood L xs most 0) else imOf W H (gPixels mood L xs most (IntKind.wrap .i64 (W * H)).toNat) := by
  unfold gImage
  simp only [hW, hH]
theorem wrap_area {W H : Int} (hW : 1 ≤ W ∧ W ≤ 100) (hH : 1 ≤ H ∧ H ≤ 100) : 1 ≤ IntKind.wrap .i64 (W * H) ∧ IntKind.wrap .i64 (W * H) ≤ 10000 := by
  have a := Int.mul_le_mul hW.2 hH.2 (by omega) (by omega)
  have b := Int.mul_le_mul hW.1 hH.1 (by omega) (by omega)
  rw [IntWalk.i64_in _ ⟨by omega, by omega⟩]
  omega
/-- a plane with longer rows -/
def strS (p : Pl) (more : Int) (k : Int) : Int := IntKind.wrap .i64 (p.w + modS (IntKind.wrap .i64 (more + k)) 4)
def strV (p : Pl) (s : Int) (i : Nat) : Int :=
  if Int.tmod (i : Int) s < p.w then nAt p.xs (IntKind.wrap .i64 (IntKind.wrap .i64 (IntKind.wrap .i64 (Int.tdiv (i : Int) s) * p.s) + Int.tmod (i : Int) s)).toNat else IntKind.wrap .u16 (IntKind.wrap .i64 (40000 + (i : Int)))
def strRow (p : Pl) (s : Int) (n : Nat) : List DV := us ((List.range n).map (strV p s))
def strN (p : Pl) (s : Int) : Nat := (IntKind.wrap .i64 (s * p.h)).toNat
def strP (p : Pl) (more : Int) (k : Int) : Pl := ⟨p.w, p.h, strS p more k, strN p (strS p more k), strRow p (strS p more k) (strN p (strS p more k))⟩
def gStrided (m : Im) (more : Int) : Im := if m.so then m else ⟨m.w, m.h, m.so, m.c, strP m.p0 more 0, strP m.p1 more 1, strP m.p2 more 2, strP m.p3 more 3, strP m.p4 more 4⟩
end Go.Proofs.Ytfeknaojnominaa
